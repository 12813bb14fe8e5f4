/- Contract: the reference's Get; it says what the code's says. No condition. -/
import Derived.Test.YtmejkljlnlpoaaaRef4
namespace Go.Proofs.Ytmejkljlnlpoaaa.EV
open Go Go.Proofs
set_option linter.unusedVariables false
set_option linter.unusedSimpArgs false
set_option maxRecDepth 100000
set_option pp.deepTerms false
set_option pp.deepTerms.threshold 20
theorem readN_one (q : List UInt8) (k : Nat) : readN ((q.drop k).take 1) = (bN q k : Int) := by
  have h := bN_lt q k
  cases hq : q.drop k with
  | nil =>
    have h1 : bN q k = 0 := by
      have := bN_drop q k 0
      rw [hq, Nat.add_zero] at this
      rw [← this]; rfl
    rw [h1]; rfl
  | cons b r =>
    have h1 : bN q k = b.toNat := by
      have := bN_drop q k 0
      rw [hq, Nat.add_zero] at this
      rw [← this]; rfl
    rw [h1] at h ⊢
    unfold readN sgn64 beN
    simp only [List.take_succ_cons, List.take_zero, List.foldl_cons, List.foldl_nil, Nat.zero_mul, Nat.zero_add]
    rw [if_pos (by omega)]
theorem decIt_3 (q : List UInt8) : decIt 3 q = decItem q := by
  unfold decIt decItem
  rw [readN_one]; rfl
theorem decVs_3 : ∀ (n : Nat) (q : List UInt8), decVs 3 n q = decs n q
  | 0, _ => rfl
  | n + 1, q => by rw [decVs, decs, decIt_3, decVs_3 n]; rfl
theorem bodyV_3 {p : List UInt8} (h3 : 3 ≤ p.length) : bodyV 3 p = bodyR (p.drop 3) := by
  have e1 : bN (p.drop 3) 5 = bN p 8 := bN_drop p 3 5
  have e2 : bN (p.drop 3) 0 = bN p 3 := bN_drop p 3 0
  have e3 : readN (((p.drop 3).drop 1).take 4) - 1 = curV 3 p := by rw [List.drop_drop]; rfl
  have e4 : (p.drop 3).drop 6 = p.drop 9 := by rw [List.drop_drop]
  unfold bodyV bodyR
  rw [e1, e2, e3, e4, List.length_drop]
  rw [show 5 + curL 3 = 9 from rfl, show 4 + curL 3 = 8 from rfl, show szV 3 = 13 from rfl, decVs_3]
  have hc : cgood (bN p 3 : Int) (curV 3 p) (decs (bN p 8) (p.drop 9)) = (decide (bN p 3 ≤ 2) && goodF (curV 3 p) (decs (bN p 8) (p.drop 9))) := by
    unfold cgood
    rw [decide_eq_true (by omega : (0 : Int) ≤ (bN p 3 : Int)), Bool.true_and]
    congr 1
    rw [decide_eq_decide]; omega
  rw [hc]
  by_cases q : p.length < 9 ∨ p.length ≠ 9 + 13 * bN p 8
  · rw [if_pos q, if_pos (show p.length - 3 < 6 ∨ p.length - 3 ≠ 6 + 13 * bN p 8 by omega)]
  · rw [if_neg q, if_neg (show ¬ (p.length - 3 < 6 ∨ p.length - 3 ≠ 6 + 13 * bN p 8) by omega)]
noncomputable def rgetR (l : List UInt8) : Int × Int × List Item × Int :=
  if (readR l).2.2.2.2 ≠ 9 ∧ (readR l).1 ≠ 3 ∧ ((readR l).1 = 1 ∨ (readR l).1 = 2) then (0, 0, [], 10) else (readR l).2
theorem getR_ref (l : List UInt8) : rgetR l = getR l := by
  cases ho : openN l with
  | none =>
    have e1 : readR l = (0, 0, 0, [], 9) := by unfold readR; rw [ho]
    have e2 : openR l = ([], 0, 9) := by unfold openR; rw [ho]
    unfold rgetR getR
    rw [e1, e2]; rfl
  | some p =>
    cases hb : versionN p with
    | none =>
      have e1 : readR l = (0, 0, 0, [], 8) := by unfold readR; rw [ho]; dsimp only; rw [hb]
      have e2 : openR l = ([], 0, 8) := by unfold openR; rw [ho]; dsimp only; rw [hb]
      unfold rgetR getR
      rw [e1, e2]; rfl
    | some v =>
      have e1 : readR l = if v < 1 ∨ 3 < v then (v, 0, 0, [], 10) else (v, bodyV v p) := by unfold readR; rw [ho]; dsimp only; rw [hb]
      have e2 : openR l = (p.drop 3, v, 0) := by unfold openR; rw [ho]; dsimp only; rw [hb]
      have h3 : 3 ≤ p.length := by
        obtain ⟨c, r, rfl, rfl⟩ := versionN_inv hb
        simp only [List.length_cons]; omega
      have e3 : getR l = if v ≠ 3 then (0, 0, [], 10) else bodyR (p.drop 3) := by
        unfold getR
        rw [e2]; rfl
      have hne : (bodyV v p).2.2.2 ≠ 9 := by
        unfold bodyV
        split
        · simp
        · split <;> simp
      rw [e3]
      unfold rgetR
      by_cases hv : v < 1 ∨ 3 < v
      · rw [e1, if_pos hv, if_pos (show v ≠ 3 by omega), if_neg (by rintro ⟨_, _, h⟩; dsimp only at h; omega)]
      · rw [e1, if_neg hv]
        by_cases h3' : v = 3
        · rw [if_neg (show ¬ v ≠ 3 by omega), if_neg (by rintro ⟨_, h, _⟩; exact h h3'), h3']
          exact bodyV_3 h3
        · rw [if_pos (show v ≠ 3 from h3'), if_pos ⟨hne, h3', by dsimp only; omega⟩]
theorem rget_ev (l : List UInt8) (s : Value) (h : Heap) (hs : SL byteE 1 h s l) (hl : l.length < 700000) :
    WPo (EF Try.prog O0 13 [s] h) fun q => ∃ v, q.1 = .tuple ⟨[.int .i64 (getR l).1, formV (getR l).2.1 v, .int .i64 (getR l).2.2.2]⟩ ∧ OW itemE 3 q.2 v (getR l).2.2.1 ∧ Fresh h.next v ∧ Ext h q.2 := by
  rw [← getR_ref]
  rw [EF_body (O := O0) (by kernel_rfl) Try.func13 rfl (rs := [.tmp 2, .cell 3 33, .tmp 4]) rfl (bad := []) (by kernel_rfl) _ _ (m := 34) rfl]
  unfold formV
  simp (maxSteps := 1000000) (disch := first | decide | omega | (simp only [go_sem]; first | done | omega)) only [go_sem, Int.reduceToNat, Nat.reduceMul, Nat.reduceAdd, Nat.reduceSub, ↓EU_region, ↓EU_draw]
  repeat refine WPo_ob ?_
  refine (rread_ev l s _ (hs.ext ((Ext.refl h).push _)) hl).mono ?_
  rintro ⟨w, h1⟩ ⟨v, rfl, hov, hfv, x1⟩
  simp only at hov hfv x1
  have hn1 := x1.le
  rw [next_push] at hn1 hfv
  have c0 : h1.get h.next = .cells [.int .i64 0, .slice none 0 1] 0 := by rw [x1.old _ (by rw [next_push]; omega)]; exact get_push_new _ _
  obtain ⟨a, c, rfl⟩ := hov.val
  unfold rgetR formV
  have y1 : Ext h h1 := ((Ext.refl h).push _).trans x1
  generalize readR l = R at *
  obtain ⟨v, tag, cur, its, e⟩ := R
  dsimp only at *
  simp (maxSteps := 1000000) (disch := first | decide | omega | (simp only [go_sem]; first | done | omega)) only [go_sem, Int.reduceToNat, Nat.reduceMul, Nat.reduceAdd, Nat.reduceSub, ↓EU_region, ↓EU_draw, c0]
  repeat' (((repeat refine WPo_ob ?_); (first | refine WPo_cond (fun hb => ?_) (fun hb => ?_) | refine WPo_gard (fun hb => ?_) (fun hb => ?_) | refine WPo_gardT (fun hb => ?_) (fun hb => ?_)) <;> (try simp only [Bool.not_eq_true', Bool.not_eq_false'] at hb)) <;> (simp (maxSteps := 1000000) (disch := first | decide | omega | (simp only [go_sem]; first | done | omega)) only [go_sem, Int.reduceToNat, Nat.reduceMul, Nat.reduceAdd, Nat.reduceSub, ↓EU_region, ↓EU_draw, hb, c0]))
  all_goals (simp only [decide_eq_true_eq, decide_eq_false_iff_not] at *)
  all_goals (by_cases q : e ≠ 9 ∧ v ≠ 3 ∧ (v = 1 ∨ v = 2))
  all_goals (first | rw [if_pos q] | rw [if_neg q])
  all_goals (first | (exfalso; omega) | exact ⟨_, rfl, OW.nil, Fresh.nil _ _ _, (y1.push _).set _ _ (Nat.le_refl _)⟩ | exact ⟨_, rfl, (hov.ext ((Ext.refl h1).push (.cells [.int .i64 cur, .slice a its.length c] 0))).mod (Mod.set (S := fun j => j = h.next) (Mod.refl _ _) _ _ (fun _ => rfl)) (fun j hj q => by have := hfv j hj; omega), hfv.mono (by omega), (y1.push _).set _ _ (Nat.le_refl _)⟩)
end Go.Proofs.Ytmejkljlnlpoaaa.EV
