/- Contract: elder's Read. No condition. -/
import Derived.Test.YtddgcakiceodgaaGreatElder2
namespace Go.Proofs.YtddgcakiceodgaaGreat.EV
open Go Go.Proofs
set_option linter.unusedVariables false
set_option linter.unusedSimpArgs false
set_option maxRecDepth 100000
set_option pp.deepTerms false
set_option pp.deepTerms.threshold 20
/-- what was read of a version may be -/
theorem readR_good {l : List UInt8} (h : (readR l).2.2.2.2 = 0) : cgood (readR l).2.1 (readR l).2.2.1 (readR l).2.2.2.1 = true := by
  unfold readR at h ⊢
  cases ho : openN l with
  | none => rw [ho] at h; cases h
  | some p =>
    rw [ho] at h
    dsimp only at h ⊢
    cases hb : versionN p with
    | none => rw [hb] at h; cases h
    | some v =>
      rw [hb] at h
      dsimp only at h ⊢
      split
      · rename_i q; rw [if_pos q] at h; cases h
      · rename_i q
        rw [if_neg q] at h
        dsimp only at h ⊢
        unfold bodyV at h ⊢
        split
        · rename_i q2; rw [if_pos q2] at h; cases h
        · rename_i q2
          rw [if_neg q2] at h
          split
          · rename_i q3
            simp only [Bool.and_eq_true, decide_eq_true_eq] at q3
            unfold cgood
            rw [decide_eq_true (by omega : (0 : Int) ≤ _), decide_eq_true (by omega : ((bN p 3 : Nat) : Int) ≤ 2), q3.2]; rfl
          · rename_i q3; rw [if_neg q3] at h; cases h
theorem readR_err {l : List UInt8} (h : (readR l).2.2.2.2 ≠ 0) : (readR l).2.1 = 0 ∧ (readR l).2.2.1 = 0 ∧ (readR l).2.2.2.1 = [] := by
  unfold readR at h ⊢
  cases ho : openN l with
  | none => exact ⟨rfl, rfl, rfl⟩
  | some p =>
    rw [ho] at h
    dsimp only at h ⊢
    cases hb : versionN p with
    | none => exact ⟨rfl, rfl, rfl⟩
    | some v =>
      rw [hb] at h
      dsimp only at h ⊢
      split
      · exact ⟨rfl, rfl, rfl⟩
      · rename_i q
        rw [if_neg q] at h
        dsimp only at h ⊢
        unfold bodyV at h ⊢
        split
        · exact ⟨rfl, rfl, rfl⟩
        · rename_i q2
          rw [if_neg q2] at h
          split
          · rename_i q3; rw [if_pos q3] at h; exact (h rfl).elim
          · exact ⟨rfl, rfl, rfl⟩
/-- version 3 is read so by both -/
theorem readR_get {l : List UInt8} (h : (readR l).2.2.2.2 = 0) (h3 : (readR l).1 = 3) : getR l = (readR l).2 := by
  rw [← getR_ref]
  unfold rgetR
  rw [if_neg (by rintro ⟨_, k, _⟩; exact k h3)]
/-- what is made of it, is read so -/
theorem getR_up {l : List UInt8} (h : (readR l).2.2.2.2 = 0) : (upR l).2 = 0 ∧ getR (upR l).1 = (readR l).2 := by
  unfold upR
  rw [if_neg (by omega)]
  by_cases h3 : (readR l).1 = 3
  · rw [if_pos h3]
    exact ⟨rfl, readR_get h h3⟩
  · rw [if_neg h3]
    refine ⟨rfl, ?_⟩
    dsimp only
    rw [getR_enc (readR_good h), ← h]
theorem upR_err {l : List UInt8} (h : (readR l).2.2.2.2 ≠ 0) : upR l = ([], (readR l).2.2.2.2) := by
  unfold upR
  rw [if_pos h]
theorem upR_len (l : List UInt8) (hl : l.length < 600000) : (upR l).1.length < 700000 := by
  by_cases h : (readR l).2.2.2.2 = 0
  · have hg := good_facts (cgood_facts (readR_good h)).2.2
    unfold upR
    rw [if_neg (by omega)]
    split
    · dsimp only; omega
    · dsimp only; rw [sealN_len, encF_len]; omega
  · rw [upR_err h]; exact Nat.zero_lt_succ _
theorem eread_ev (l : List UInt8) (s : Value) (h : Heap) (hs : SL byteE 1 h s l) (hl : l.length < 600000) :
    WPo (EF Tryz.prog O0 76 [s] h) fun q => ∃ v, q.1 = .tuple ⟨[.int .i64 (readR l).2.1, formV (readR l).2.2.1 v, .int .i64 (readR l).2.2.2.2]⟩ ∧ OW itemE 3 q.2 v (readR l).2.2.2.1 ∧ Fresh h.next v ∧ Ext h q.2 := by
  rw [EF_body (O := O0) (by kernel_rfl) Tryz.func76 rfl (rs := [.tmp 2, .cell 3 24, .tmp 4]) rfl (bad := []) (by kernel_rfl) _ _ (m := 20) rfl]
  unfold formV
  simp (maxSteps := 1000000) (disch := first | decide | omega | (simp only [go_sem]; first | done | omega)) only [go_sem, Int.reduceToNat, Nat.reduceMul, Nat.reduceAdd, Nat.reduceSub, ↓EU_region, ↓EU_draw]
  repeat refine WPo_ob ?_
  refine (up_ev l s _ (hs.ext ((Ext.refl h).push _)) hl).mono ?_
  rintro ⟨w, h1⟩ ⟨u, rfl, su, x1⟩
  simp only at su x1
  have hn1 := x1.le
  rw [next_push] at hn1
  have c0 : h1.get h.next = .cells [.int .i64 0, .slice none 0 1] 0 := by rw [x1.old _ (by rw [next_push]; omega)]; exact get_push_new _ _
  have y1 : Ext h h1 := ((Ext.refl h).push _).trans x1
  by_cases q : (readR l).2.2.2.2 = 0
  · obtain ⟨k1, k2⟩ := getR_up q
    rw [k1]
    simp (maxSteps := 1000000) (disch := first | decide | omega | (simp only [go_sem]; first | done | omega)) only [go_sem, Int.reduceToNat, Nat.reduceMul, Nat.reduceAdd, Nat.reduceSub, ↓EU_region, ↓EU_draw, dec_t, dec_f]
    repeat refine WPo_ob ?_
    refine (cget_ev _ u h1 su (upR_len l hl)).mono ?_
    rintro ⟨w2, h2⟩ ⟨v2, rfl, o2, f2, x2⟩
    simp only at o2 f2 x2
    rw [k2] at o2 ⊢
    have hn2 := x2.le
    have c0' : h2.get h.next = .cells [.int .i64 0, .slice none 0 1] 0 := by rw [x2.old _ (by omega)]; exact c0
    obtain ⟨a2, c2, rfl⟩ := o2.val
    unfold formV
    simp (maxSteps := 1000000) (disch := first | decide | omega | (simp only [go_sem]; first | done | omega)) only [go_sem, Int.reduceToNat, Nat.reduceMul, Nat.reduceAdd, Nat.reduceSub, ↓EU_region, ↓EU_draw, dec_t, dec_f, c0']
    exact ⟨_, rfl, o2.mod (Mod.set (S := fun j => j = h.next) (Mod.refl _ _) _ _ (fun _ => rfl)) (fun j hj q => by have := f2 j hj; omega), f2.mono (by omega), (y1.trans x2).set _ _ (Nat.le_refl _)⟩
  · have k := upR_err q
    obtain ⟨r1, r2, r3⟩ := readR_err q
    rw [k, r1, r2, r3]
    have hd : decide ((readR l).2.2.2.2 = 0) = false := decide_eq_false q
    simp (maxSteps := 1000000) (disch := first | decide | omega | (simp only [go_sem]; first | done | omega)) only [go_sem, Int.reduceToNat, Nat.reduceMul, Nat.reduceAdd, Nat.reduceSub, ↓EU_region, ↓EU_draw, hd, c0]
    exact ⟨_, rfl, OW.nil, Fresh.nil _ _ _, y1.set _ _ (Nat.le_refl _)⟩
end Go.Proofs.YtddgcakiceodgaaGreat.EV
