/- Contracts: queues: All, Above, Over. No condition. -/
import Derived.Test.YtbbdhpjkibbnkaaOq8
namespace Go.Proofs.Ytbbdhpjkibbnkaa.EV
open Go Go.Proofs
set_option linter.unusedVariables false
set_option linter.unusedSimpArgs false
set_option maxRecDepth 100000
set_option pp.deepTerms false
set_option pp.deepTerms.threshold 20
noncomputable def argI (i : Nat) (x : QI) : List Value := [.int .i64 (i : Int), .agg ⟨[.int .i64 x.key, .int .i64 x.id]⟩]
theorem all_it {base : Heap} {b : Nat} {lv : Value} {mb : Nat} {most st : Int} {l : List QI} (q : QR base b lv mb most st l) (A : Nat) (bx : List (Nat × Value)) (hA : (A, ptr b 0) ∈ bx) (hl : l.length < 800000) :
    Iter Try.prog O0 argI 37 [ptr A 0] (srtQ l) bx base := by
  intro yv I D h0 W0 yc fI fD fb x0 b0 i0 hy
  rw [EF_body (O := O0) (by kernel_rfl) Try.func37 rfl (rs := []) rfl (bad := []) (by kernel_rfl) _ _ (m := 19) rfl]
  have gA : h0.get A = .cells [ptr b 0] 0 := (b0 _ hA).1
  simp (maxSteps := 1000000) (disch := first | decide | omega | (simp only [go_sem]; first | done | omega)) only [go_sem, Int.reduceToNat, Nat.reduceMul, Nat.reduceAdd, Nat.reduceSub, ↓EU_region, ↓EU_draw, gA]
  repeat refine WPo_ob ?_
  refine (qlist_ev (q.ext x0) hl).mono ?_
  rintro ⟨v, h1⟩ ⟨o1, f1, x1⟩
  simp only at o1 f1 x1
  have hML : (srtQ l).length < 800000 := by rw [srtQ_len]; exact hl
  generalize srtQ l = M at *
  obtain ⟨a, c, rfl⟩ := o1.val
  have i1 := fI 0 _ h1 W0 (fun _ => False) i0 (x1.mod _) (fun _ _ q => q)
  have hle1 := x1.le
  have wlt : ∀ j, W0 j → j < h0.next := fun j hj => (fb _ _ _ i0 j hj).2.1
  have m1 : Mod W0 h0 h1 := x1.mod _
  have xb1 : Ext base h1 := x0.trans x1
  simp (maxSteps := 1000000) (disch := first | decide | omega | (simp only [go_sem]; first | done | omega)) only [go_sem, Int.reduceToNat, Nat.reduceMul, Nat.reduceAdd, Nat.reduceSub, ↓EU_region, ↓EU_draw]
  repeat refine WPo_ob ?_
  refine (LP_rule (fun m st => ∃ (i : Nat) (tm : Fr) (h' : Heap) (W : Nat → Prop), st = ⟨tm, h', []⟩ ∧ m = M.length - i ∧ i ≤ M.length ∧ Fr.get tm 0 = yv ∧ Fr.get tm 6 = .slice a M.length c ∧ Fr.get tm 7 = .int .i64 M.length ∧ Fr.get tm 8 = .int .i64 (i : Int) ∧ I i h' W ∧ (∀ j, W j → W0 j ∨ h1.next ≤ j) ∧ Mod W0 h0 h' ∧ h1.next ≤ h'.next ∧ Ext base h' ∧ OW qE 2 h' (.slice a M.length c) M ∧ BX bx h')
    (fun q => ∃ tm h', q.2 = ⟨tm, h', []⟩ ∧ (q.1 = .exit 0 ∨ q.1 = .ret) ∧ ((∃ W, I M.length h' W ∧ ∀ j, W j → W0 j ∨ h0.next ≤ j) ∨ (∃ W, D h' W ∧ ∀ j, W j → W0 j ∨ h0.next ≤ j)) ∧ Mod W0 h0 h') ?_ M.length _ _ ?_ ?_).mono ?_
  · rintro m _ ⟨i, tm, h', W, rfl, hm, hi, g0, g6, g7, g8, ii, hW, md, hn1, xx, oo, bb⟩
    by_cases q : i < M.length
    · have d : decide ((i : Int) < (M.length : Int)) = true := decide_eq_true (by omega)
      have hwi : wrapF .i64 ((i : Int) + 1) = ((i + 1 : Nat) : Int) := by rw [wrap64 (by omega)]; rfl
      obtain ⟨x, hx⟩ : ∃ x, M[i]? = some x := ⟨_, List.getElem?_eq_getElem q⟩
      obtain ⟨B, o, c', e, _, r1, _⟩ := oo.sl.at hx rfl
      cases e
      have r1 : rdc (h'.get B) (o + i * 2) 2 = some [.int .i64 x.key, .int .i64 x.id] := r1
      have ii2 := fI i _ (h'.push (.cells [.int .i64 x.key, .int .i64 x.id] 0)) W (fun _ => False) ii ((Mod.refl _ _).push _) (fun _ _ q => q)
      have hyy := hy i x _ W hx ii2 (xx.push _) (bb.push _)
      unfold argI at hyy
      have hbW := fb _ _ _ ii
      have n1 : (h'.push (.cells [.int .i64 x.key, .int .i64 x.id] 0)).next = h'.next + 1 := next_push _ _
      simp (maxSteps := 1000000) (disch := first | decide | omega | (simp only [go_sem]; first | done | omega)) only [go_sem, Int.reduceToNat, Nat.reduceMul, Nat.reduceAdd, Nat.reduceSub, ↓EU_region, ↓EU_draw, g0, g6, g7, g8, d, r1]
      repeat refine WPo_ob ?_
      refine hyy.mono ?_
      rintro ⟨v, h2⟩ ⟨r, m2⟩
      simp only at r m2
      have hle := md.le
      have hle2 := m2.le
      have hk : ∀ W' : Nat → Prop, (∀ j, W' j → W j ∨ (h'.push (.cells [.int .i64 x.key, .int .i64 x.id] 0)).next ≤ j) → ∀ j, W' j → W0 j ∨ h1.next ≤ j := fun W' k j hj => by
        rcases k j hj with q | q
        · exact hW j q
        · exact .inr (by omega)
      have hk0 : ∀ W' : Nat → Prop, (∀ j, W' j → W0 j ∨ h1.next ≤ j) → ∀ j, W' j → W0 j ∨ h0.next ≤ j := fun W' k j hj => by
        rcases k j hj with q | q
        · exact .inl q
        · exact .inr (by omega)
      have md2 : Mod W0 h0 h2 := (md.push _).own m2 (fun j hj => hk0 W hW j hj)
      have xx2 : Ext base h2 := Mod.ext (((xx.push _).mod (fun _ => False)).own m2 (fun j hj => .inr (hbW j hj).1))
      have oo2 := (oo.ext ((Ext.refl h').push (.cells [.int .i64 x.key, .int .i64 x.id] 0))).mod m2 (fun j e1 e2 => by
        have hB := o1.lt e1
        have hB2 := f1 j e1
        rcases hW j e2 with q | q
        · have := wlt j q; omega
        · omega)
      have bb2 : BX bx h2 := (bb.push _).mod m2 fun p hp k => (hbW _ k).2.2 p hp rfl
      rcases r with ⟨rfl, W', i2, w2⟩ | ⟨rfl, W', d2, w2⟩
      · simp (maxSteps := 1000000) (disch := first | decide | omega | (simp only [go_sem]; first | done | omega)) only [go_sem, Int.reduceToNat, Nat.reduceMul, Nat.reduceAdd, Nat.reduceSub, ↓EU_region, ↓EU_draw, g8, hwi]
        exact ⟨M.length - (i + 1), by omega, i + 1, _, h2, W', rfl, rfl, by omega, by simp (maxSteps := 1000000) (disch := first | decide | omega | (simp only [go_sem]; first | done | omega)) only [go_sem, Int.reduceToNat, Nat.reduceMul, Nat.reduceAdd, Nat.reduceSub, ↓EU_region, ↓EU_draw, g0], by simp (maxSteps := 1000000) (disch := first | decide | omega | (simp only [go_sem]; first | done | omega)) only [go_sem, Int.reduceToNat, Nat.reduceMul, Nat.reduceAdd, Nat.reduceSub, ↓EU_region, ↓EU_draw, g6], by simp (maxSteps := 1000000) (disch := first | decide | omega | (simp only [go_sem]; first | done | omega)) only [go_sem, Int.reduceToNat, Nat.reduceMul, Nat.reduceAdd, Nat.reduceSub, ↓EU_region, ↓EU_draw, g7], by simp (maxSteps := 1000000) (disch := first | decide | omega | (simp only [go_sem]; first | done | omega)) only [go_sem, Int.reduceToNat, Nat.reduceMul, Nat.reduceAdd, Nat.reduceSub, ↓EU_region, ↓EU_draw], i2, hk W' w2, md2, by omega, xx2, oo2, bb2⟩
      · simp (maxSteps := 1000000) (disch := first | decide | omega | (simp only [go_sem]; first | done | omega)) only [go_sem, Int.reduceToNat, Nat.reduceMul, Nat.reduceAdd, Nat.reduceSub, ↓EU_region, ↓EU_draw]
        exact ⟨_, h2, rfl, .inr trivial, .inr ⟨W', d2, hk0 W' (hk W' w2)⟩, md2⟩
    · have d : decide ((i : Int) < (M.length : Int)) = false := decide_eq_false (by omega)
      obtain rfl : i = M.length := by omega
      simp (maxSteps := 1000000) (disch := first | decide | omega | (simp only [go_sem]; first | done | omega)) only [go_sem, Int.reduceToNat, Nat.reduceMul, Nat.reduceAdd, Nat.reduceSub, ↓EU_region, ↓EU_draw, g7, g8, d]
      exact ⟨_, h', rfl, .inl trivial, .inl ⟨W, ii, fun j hj => by
        rcases hW j hj with q | q
        · exact .inl q
        · exact .inr (by omega)⟩, md⟩
  · exact ⟨0, _, h1, W0, rfl, rfl, by omega, by simp (maxSteps := 1000000) (disch := first | decide | omega | (simp only [go_sem]; first | done | omega)) only [go_sem, Int.reduceToNat, Nat.reduceMul, Nat.reduceAdd, Nat.reduceSub, ↓EU_region, ↓EU_draw], by simp (maxSteps := 1000000) (disch := first | decide | omega | (simp only [go_sem]; first | done | omega)) only [go_sem, Int.reduceToNat, Nat.reduceMul, Nat.reduceAdd, Nat.reduceSub, ↓EU_region, ↓EU_draw], by simp (maxSteps := 1000000) (disch := first | decide | omega | (simp only [go_sem]; first | done | omega)) only [go_sem, Int.reduceToNat, Nat.reduceMul, Nat.reduceAdd, Nat.reduceSub, ↓EU_region, ↓EU_draw], by simp (maxSteps := 1000000) (disch := first | decide | omega | (simp only [go_sem]; first | done | omega)) only [go_sem, Int.reduceToNat, Nat.reduceMul, Nat.reduceAdd, Nat.reduceSub, ↓EU_region, ↓EU_draw]; rfl, i1, fun j hj => .inl hj, m1, Nat.le_refl _, xb1, o1, b0.ext x1⟩
  · omega
  · rintro ⟨_, _⟩ ⟨tm, h', rfl, e, r, md⟩
    rcases e with rfl | rfl
    · simp (maxSteps := 1000000) (disch := first | decide | omega | (simp only [go_sem]; first | done | omega)) only [go_sem, Int.reduceToNat, Nat.reduceMul, Nat.reduceAdd, Nat.reduceSub, ↓EU_region, ↓EU_draw]
      exact ⟨r, md⟩
    · simp (maxSteps := 1000000) (disch := first | decide | omega | (simp only [go_sem]; first | done | omega)) only [go_sem, Int.reduceToNat, Nat.reduceMul, Nat.reduceAdd, Nat.reduceSub, ↓EU_region, ↓EU_draw]
      exact ⟨r, md⟩
/-- how many of the first i are of a kind -/
noncomputable def cntU {α : Type} (p : α → Bool) (L : List α) (i : Nat) : Nat := ((L.take i).filter p).length
section
variable {α : Type} {p : α → Bool} {L : List α} {i : Nat} {x : α}
theorem cntU_zero : cntU p L 0 = 0 := rfl
theorem cntU_len : cntU p L L.length = (L.filter p).length := by unfold cntU; rw [List.take_length]
theorem cntU_t (hx : L[i]? = some x) (hp : p x = true) : cntU p L (i + 1) = cntU p L i + 1 := by
  unfold cntU
  have : L.take (i + 1) = L.take i ++ [x] := by rw [List.take_add_one, hx]; rfl
  rw [this, List.filter_append, List.length_append, List.filter_cons_of_pos hp]
  rfl
theorem cntU_f (hx : L[i]? = some x) (hp : p x = false) : cntU p L (i + 1) = cntU p L i := by
  unfold cntU
  have : L.take (i + 1) = L.take i ++ [x] := by rw [List.take_add_one, hx]; rfl
  rw [this, List.filter_append, List.length_append, List.filter_cons_of_neg (by rw [hp]; exact Bool.false_ne_true)]
  rfl
theorem cntU_at (hx : L[i]? = some x) (hp : p x = true) : (L.filter p)[cntU p L i]? = some x := by
  obtain ⟨hi, e⟩ := List.getElem?_eq_some_iff.1 hx
  have e2 : L = L.take i ++ x :: L.drop (i + 1) := by rw [← e, ← List.drop_eq_getElem_cons hi, List.take_append_drop]
  have e3 : L.filter p = (L.take i).filter p ++ x :: (L.drop (i + 1)).filter p := by
    conv => lhs; rw [e2]
    rw [List.filter_append, List.filter_cons_of_pos hp]
  unfold cntU
  rw [e3, List.getElem?_append_right (Nat.le_refl _), Nat.sub_self]
  rfl
end
/-- with a round's own two blocks -/
noncomputable def WU (W : Nat → Prop) (d : Nat) : Nat → Prop := fun j => W j ∨ j = d ∨ j = d + 1
noncomputable def nJ (P : Heap → (Nat → Prop) → Prop) (W0 : Nat → Prop) (d lo : Nat) (B : Blk) (h : Heap) (W' : Nat → Prop) : Prop := ∃ W, W' = WU W d ∧ P h W ∧ (∀ j, W j → W0 j ∨ lo ≤ j) ∧ h.get (d + 1) = B ∧ h.get d = .defd ∧ lo ≤ h.next
theorem nJ_fr {β : Type} {P : β → Heap → (Nat → Prop) → Prop} (f : FrI P) {W0 : Nat → Prop} {d lo : Nat} {B : Blk} (hd : d + 2 ≤ lo) : FrI (fun i => nJ (P i) W0 d lo B) := by
  rintro i h h' W' S ⟨W, rfl, p, s, g1, g2, n⟩ md hS
  exact ⟨W, rfl, f i _ _ _ _ p md (fun j hj => hS j (.inl hj)), s, by rw [md.old _ (by omega) (hS _ (.inr (.inr rfl)))]; exact g1, by rw [md.old _ (by omega) (hS _ (.inr (.inl rfl)))]; exact g2, Nat.le_trans n md.le⟩
theorem nJ_set {β : Type} {P : β → Heap → (Nat → Prop) → Prop} (f : FrI P) {W0 W : Nat → Prop} {d lo : Nat} (B : Blk) {i : β} {h : Heap} (p : P i h W) (s : ∀ j, W j → W0 j ∨ lo ≤ j) (w0 : ∀ j, W0 j → j < d) (hd : d + 2 ≤ lo) (g : h.get d = .defd) (n : lo ≤ h.next) : nJ (P i) W0 d lo B (h.set (d + 1) B) (WU W d) :=
  ⟨W, rfl, f i _ _ W (fun j => j = d + 1) p ((Mod.refl _ _).set _ _ (fun _ => rfl)) (fun j hj e => by
    rcases s j hj with q | q
    · have := w0 j q; omega
    · omega), s, get_set_same _ _ _, by rw [get_set_ne _ (by omega)]; exact g, by rw [next_set]; exact n⟩
theorem setP2 (n : Nat) (t u : Tmp) (v w : Value) (tm : Fr) : setParams n ([t, u].zip [v, w]) tm = Fr.put n (Fr.put n tm t v) u w := rfl
theorem all_fn (b : Nat) (h : Heap) : EF Try.prog O0 26 [ptr b 0] h = some (.func (.func 37) ⟨[]⟩ ⟨[ptr h.next 0]⟩, h.push (.cells [ptr b 0] 0)) := by
  have : WPo (EF Try.prog O0 26 [ptr b 0] h) fun r => r = (.func (.func 37) ⟨[]⟩ ⟨[ptr h.next 0]⟩, h.push (.cells [ptr b 0] 0)) := by
    rw [EF_body (O := O0) (by kernel_rfl) Try.func26 rfl (rs := [.tmp 2]) rfl (bad := []) (by kernel_rfl) _ _ (m := 4) rfl]
    simp (maxSteps := 1000000) (disch := first | decide | omega | (simp only [go_sem]; first | done | omega)) only [go_sem, Int.reduceToNat, Nat.reduceMul, Nat.reduceAdd, Nat.reduceSub, ↓EU_region, ↓EU_draw]
  obtain ⟨q, e, rfl⟩ := this
  exact e
end Go.Proofs.Ytbbdhpjkibbnkaa.EV
