/- Contracts: queues: All, Above, Over. No condition. -/
import Derived.Test.YtchclddjifhcaaaOq8
namespace Go.Proofs.Ytchclddjifhcaaa.EV
open Go Go.Proofs
set_option linter.unusedVariables false
set_option linter.unusedSimpArgs false
set_option maxRecDepth 100000
set_option pp.deepTerms false
set_option pp.deepTerms.threshold 20
noncomputable def argI (i : Nat) (x : QI) : List Value := [.int .i64 (i : Int), .agg ⟨[.int .i64 x.key, .int .i64 x.id]⟩]
theorem all_it {base : Heap} {b : Nat} {lv : Value} {mb : Nat} {most st : Int} {l : List QI} (q : QR base b lv mb most st l) (A : Nat) (bx : List (Nat × Value)) (hA : (A, ptr b 0) ∈ bx) (hl : l.length < 800000) :
    Iter Try.prog O0 argI 43 [ptr A 0] (srtQ l) bx base := by
  intro yv I D h0 W0 yc fI fD fb x0 b0 i0 hy
  rw [EF_body (O := O0) (by kernel_rfl) Try.func43 rfl (rs := []) rfl (bad := []) (by kernel_rfl) _ _ (m := 19) rfl]
  have gA : h0.get A = .cells [ptr b 0] 0 := (b0 _ hA).1
  simp (maxSteps := 1000000) (disch := first | decide | omega | (simp only [go_sem]; first | done | omega)) only [go_sem, Int.reduceToNat, Nat.reduceMul, Nat.reduceAdd, Nat.reduceSub, ↓EU_region, ↓EU_draw, gA]
  repeat refine WPo_ob ?_
  refine (qlist_ev (q.ext x0) hl).mono ?_
  rintro ⟨v, h1⟩ ⟨o1, f1, x1⟩
  simp only at o1 f1 x1
  have hML : (srtQ l).length < 800000 := by rw [srtQ_len]; exact hl
  generalize srtQ l = M at *
  obtain ⟨a, c, rfl⟩ := o1.val
  have i1 := fI 0 _ h1 W0 (fun _ => False) i0 (x1.mod _) (fun _ _ q => q)
  have hle1 := x1.le
  have wlt : ∀ j, W0 j → j < h0.next := fun j hj => (fb _ _ _ i0 j hj).2.1
  have m1 : Mod W0 h0 h1 := x1.mod _
  have xb1 : Ext base h1 := x0.trans x1
  simp (maxSteps := 1000000) (disch := first | decide | omega | (simp only [go_sem]; first | done | omega)) only [go_sem, Int.reduceToNat, Nat.reduceMul, Nat.reduceAdd, Nat.reduceSub, ↓EU_region, ↓EU_draw]
  repeat refine WPo_ob ?_
  refine (LP_rule (fun m st => ∃ (i : Nat) (tm : Fr) (h' : Heap) (W : Nat → Prop), st = ⟨tm, h', []⟩ ∧ m = M.length - i ∧ i ≤ M.length ∧ Fr.get tm 0 = yv ∧ Fr.get tm 6 = .slice a M.length c ∧ Fr.get tm 7 = .int .i64 M.length ∧ Fr.get tm 8 = .int .i64 (i : Int) ∧ I i h' W ∧ (∀ j, W j → W0 j ∨ h1.next ≤ j) ∧ Mod W0 h0 h' ∧ h1.next ≤ h'.next ∧ Ext base h' ∧ OW qE 2 h' (.slice a M.length c) M ∧ BX bx h')
    (fun q => ∃ tm h', q.2 = ⟨tm, h', []⟩ ∧ (q.1 = .exit 0 ∨ q.1 = .ret) ∧ ((∃ W, I M.length h' W ∧ ∀ j, W j → W0 j ∨ h0.next ≤ j) ∨ (∃ W, D h' W ∧ ∀ j, W j → W0 j ∨ h0.next ≤ j)) ∧ Mod W0 h0 h') ?_ M.length _ _ ?_ ?_).mono ?_
  · rintro m _ ⟨i, tm, h', W, rfl, hm, hi, g0, g6, g7, g8, ii, hW, md, hn1, xx, oo, bb⟩
    by_cases q : i < M.length
    · have d : decide ((i : Int) < (M.length : Int)) = true := decide_eq_true (by omega)
      have hwi : wrapF .i64 ((i : Int) + 1) = ((i + 1 : Nat) : Int) := by rw [wrap64 (by omega)]; rfl
      obtain ⟨x, hx⟩ : ∃ x, M[i]? = some x := ⟨_, List.getElem?_eq_getElem q⟩
      obtain ⟨B, o, c', e, _, r1, _⟩ := oo.sl.at hx rfl
      cases e
      have r1 : rdc (h'.get B) (o + i * 2) 2 = some [.int .i64 x.key, .int .i64 x.id] := r1
      have ii2 := fI i _ (h'.push (.cells [.int .i64 x.key, .int .i64 x.id] 0)) W (fun _ => False) ii ((Mod.refl _ _).push _) (fun _ _ q => q)
      have hyy := hy i x _ W hx ii2 (xx.push _) (bb.push _)
      unfold argI at hyy
      have hbW := fb _ _ _ ii
      have n1 : (h'.push (.cells [.int .i64 x.key, .int .i64 x.id] 0)).next = h'.next + 1 := next_push _ _
      simp (maxSteps := 1000000) (disch := first | decide | omega | (simp only [go_sem]; first | done | omega)) only [go_sem, Int.reduceToNat, Nat.reduceMul, Nat.reduceAdd, Nat.reduceSub, ↓EU_region, ↓EU_draw, g0, g6, g7, g8, d, r1]
      repeat refine WPo_ob ?_
      refine hyy.mono ?_
      rintro ⟨v, h2⟩ ⟨r, m2⟩
      simp only at r m2
      have hle := md.le
      have hle2 := m2.le
      have hk : ∀ W' : Nat → Prop, (∀ j, W' j → W j ∨ (h'.push (.cells [.int .i64 x.key, .int .i64 x.id] 0)).next ≤ j) → ∀ j, W' j → W0 j ∨ h1.next ≤ j := fun W' k j hj => by
        rcases k j hj with q | q
        · exact hW j q
        · exact .inr (by omega)
      have hk0 : ∀ W' : Nat → Prop, (∀ j, W' j → W0 j ∨ h1.next ≤ j) → ∀ j, W' j → W0 j ∨ h0.next ≤ j := fun W' k j hj => by
        rcases k j hj with q | q
        · exact .inl q
        · exact .inr (by omega)
      have md2 : Mod W0 h0 h2 := (md.push _).own m2 (fun j hj => hk0 W hW j hj)
      have xx2 : Ext base h2 := Mod.ext (((xx.push _).mod (fun _ => False)).own m2 (fun j hj => .inr (hbW j hj).1))
      have oo2 := (oo.ext ((Ext.refl h').push (.cells [.int .i64 x.key, .int .i64 x.id] 0))).mod m2 (fun j e1 e2 => by
        have hB := o1.lt e1
        have hB2 := f1 j e1
        rcases hW j e2 with q | q
        · have := wlt j q; omega
        · omega)
      have bb2 : BX bx h2 := (bb.push _).mod m2 fun p hp k => (hbW _ k).2.2 p hp rfl
      rcases r with ⟨rfl, W', i2, w2⟩ | ⟨rfl, W', d2, w2⟩
      · simp (maxSteps := 1000000) (disch := first | decide | omega | (simp only [go_sem]; first | done | omega)) only [go_sem, Int.reduceToNat, Nat.reduceMul, Nat.reduceAdd, Nat.reduceSub, ↓EU_region, ↓EU_draw, g8, hwi]
        exact ⟨M.length - (i + 1), by omega, i + 1, _, h2, W', rfl, rfl, by omega, by simp (maxSteps := 1000000) (disch := first | decide | omega | (simp only [go_sem]; first | done | omega)) only [go_sem, Int.reduceToNat, Nat.reduceMul, Nat.reduceAdd, Nat.reduceSub, ↓EU_region, ↓EU_draw, g0], by simp (maxSteps := 1000000) (disch := first | decide | omega | (simp only [go_sem]; first | done | omega)) only [go_sem, Int.reduceToNat, Nat.reduceMul, Nat.reduceAdd, Nat.reduceSub, ↓EU_region, ↓EU_draw, g6], by simp (maxSteps := 1000000) (disch := first | decide | omega | (simp only [go_sem]; first | done | omega)) only [go_sem, Int.reduceToNat, Nat.reduceMul, Nat.reduceAdd, Nat.reduceSub, ↓EU_region, ↓EU_draw, g7], by simp (maxSteps := 1000000) (disch := first | decide | omega | (simp only [go_sem]; first | done | omega)) only [go_sem, Int.reduceToNat, Nat.reduceMul, Nat.reduceAdd, Nat.reduceSub, ↓EU_region, ↓EU_draw], i2, hk W' w2, md2, by omega, xx2, oo2, bb2⟩
      · simp (maxSteps := 1000000) (disch := first | decide | omega | (simp only [go_sem]; first | done | omega)) only [go_sem, Int.reduceToNat, Nat.reduceMul, Nat.reduceAdd, Nat.reduceSub, ↓EU_region, ↓EU_draw]
        exact ⟨_, h2, rfl, .inr trivial, .inr ⟨W', d2, hk0 W' (hk W' w2)⟩, md2⟩
    · have d : decide ((i : Int) < (M.length : Int)) = false := decide_eq_false (by omega)
      obtain rfl : i = M.length := by omega
      simp (maxSteps := 1000000) (disch := first | decide | omega | (simp only [go_sem]; first | done | omega)) only [go_sem, Int.reduceToNat, Nat.reduceMul, Nat.reduceAdd, Nat.reduceSub, ↓EU_region, ↓EU_draw, g7, g8, d]
      exact ⟨_, h', rfl, .inl trivial, .inl ⟨W, ii, fun j hj => by
        rcases hW j hj with q | q
        · exact .inl q
        · exact .inr (by omega)⟩, md⟩
  · exact ⟨0, _, h1, W0, rfl, rfl, by omega, by simp (maxSteps := 1000000) (disch := first | decide | omega | (simp only [go_sem]; first | done | omega)) only [go_sem, Int.reduceToNat, Nat.reduceMul, Nat.reduceAdd, Nat.reduceSub, ↓EU_region, ↓EU_draw], by simp (maxSteps := 1000000) (disch := first | decide | omega | (simp only [go_sem]; first | done | omega)) only [go_sem, Int.reduceToNat, Nat.reduceMul, Nat.reduceAdd, Nat.reduceSub, ↓EU_region, ↓EU_draw], by simp (maxSteps := 1000000) (disch := first | decide | omega | (simp only [go_sem]; first | done | omega)) only [go_sem, Int.reduceToNat, Nat.reduceMul, Nat.reduceAdd, Nat.reduceSub, ↓EU_region, ↓EU_draw], by simp (maxSteps := 1000000) (disch := first | decide | omega | (simp only [go_sem]; first | done | omega)) only [go_sem, Int.reduceToNat, Nat.reduceMul, Nat.reduceAdd, Nat.reduceSub, ↓EU_region, ↓EU_draw]; rfl, i1, fun j hj => .inl hj, m1, Nat.le_refl _, xb1, o1, b0.ext x1⟩
  · omega
  · rintro ⟨_, _⟩ ⟨tm, h', rfl, e, r, md⟩
    rcases e with rfl | rfl
    · simp (maxSteps := 1000000) (disch := first | decide | omega | (simp only [go_sem]; first | done | omega)) only [go_sem, Int.reduceToNat, Nat.reduceMul, Nat.reduceAdd, Nat.reduceSub, ↓EU_region, ↓EU_draw]
      exact ⟨r, md⟩
    · simp (maxSteps := 1000000) (disch := first | decide | omega | (simp only [go_sem]; first | done | omega)) only [go_sem, Int.reduceToNat, Nat.reduceMul, Nat.reduceAdd, Nat.reduceSub, ↓EU_region, ↓EU_draw]
      exact ⟨r, md⟩
/-- how many of the first i are of a kind -/
noncomputable def cntU {α : Type} (p : α → Bool) (L : List α) (i : Nat) : Nat := ((L.take i).filter p).length
section
variable {α : Type} {p : α → Bool} {L : List α} {i : Nat} {x : α}
theorem cntU_zero : cntU p L 0 = 0 := rfl
theorem cntU_len : cntU p L L.length = (L.filter p).length := by unfold cntU; rw [List.take_length]
theorem cntU_t (hx : L[i]? = some x) (hp : p x = true) : cntU p L (i + 1) = cntU p L i + 1 := by
  unfold cntU
  have : L.take (i + 1) = L.take i ++ [x] := by rw [List.take_add_one, hx]; rfl
  rw [this, List.filter_append, List.length_append, List.filter_cons_of_pos hp]
  rfl
theorem cntU_f (hx : L[i]? = some x) (hp : p x = false) : cntU p L (i + 1) = cntU p L i := by
  unfold cntU
  have : L.take (i + 1) = L.take i ++ [x] := by rw [List.take_add_one, hx]; rfl
  rw [this, List.filter_append, List.length_append, List.filter_cons_of_neg (by rw [hp]; exact Bool.false_ne_true)]
  rfl
theorem cntU_at (hx : L[i]? = some x) (hp : p x = true) : (L.filter p)[cntU p L i]? = some x := by
  obtain ⟨hi, e⟩ := List.getElem?_eq_some_iff.1 hx
  have e2 : L = L.take i ++ x :: L.drop (i + 1) := by rw [← e, ← List.drop_eq_getElem_cons hi, List.take_append_drop]
  have e3 : L.filter p = (L.take i).filter p ++ x :: (L.drop (i + 1)).filter p := by
    conv => lhs; rw [e2]
    rw [List.filter_append, List.filter_cons_of_pos hp]
  unfold cntU
  rw [e3, List.getElem?_append_right (Nat.le_refl _), Nat.sub_self]
  rfl
end
/-- with a round's own two blocks -/
noncomputable def WU (W : Nat → Prop) (d : Nat) : Nat → Prop := fun j => W j ∨ j = d ∨ j = d + 1
noncomputable def nJ (P : Heap → (Nat → Prop) → Prop) (W0 : Nat → Prop) (d lo : Nat) (B : Blk) (h : Heap) (W' : Nat → Prop) : Prop := ∃ W, W' = WU W d ∧ P h W ∧ (∀ j, W j → W0 j ∨ lo ≤ j) ∧ h.get (d + 1) = B ∧ h.get d = .defd ∧ lo ≤ h.next
theorem nJ_fr {β : Type} {P : β → Heap → (Nat → Prop) → Prop} (f : FrI P) {W0 : Nat → Prop} {d lo : Nat} {B : Blk} (hd : d + 2 ≤ lo) : FrI (fun i => nJ (P i) W0 d lo B) := by
  rintro i h h' W' S ⟨W, rfl, p, s, g1, g2, n⟩ md hS
  exact ⟨W, rfl, f i _ _ _ _ p md (fun j hj => hS j (.inl hj)), s, by rw [md.old _ (by omega) (hS _ (.inr (.inr rfl)))]; exact g1, by rw [md.old _ (by omega) (hS _ (.inr (.inl rfl)))]; exact g2, Nat.le_trans n md.le⟩
theorem nJ_set {β : Type} {P : β → Heap → (Nat → Prop) → Prop} (f : FrI P) {W0 W : Nat → Prop} {d lo : Nat} (B : Blk) {i : β} {h : Heap} (p : P i h W) (s : ∀ j, W j → W0 j ∨ lo ≤ j) (w0 : ∀ j, W0 j → j < d) (hd : d + 2 ≤ lo) (g : h.get d = .defd) (n : lo ≤ h.next) : nJ (P i) W0 d lo B (h.set (d + 1) B) (WU W d) :=
  ⟨W, rfl, f i _ _ W (fun j => j = d + 1) p ((Mod.refl _ _).set _ _ (fun _ => rfl)) (fun j hj e => by
    rcases s j hj with q | q
    · have := w0 j q; omega
    · omega), s, get_set_same _ _ _, by rw [get_set_ne _ (by omega)]; exact g, by rw [next_set]; exact n⟩
theorem setP2 (n : Nat) (t u : Tmp) (v w : Value) (tm : Fr) : setParams n ([t, u].zip [v, w]) tm = Fr.put n (Fr.put n tm t v) u w := rfl
theorem all_fn (b : Nat) (h : Heap) : EF Try.prog O0 38 [ptr b 0] h = some (.func (.func 43) ⟨[]⟩ ⟨[ptr h.next 0]⟩, h.push (.cells [ptr b 0] 0)) := by
  have : WPo (EF Try.prog O0 38 [ptr b 0] h) fun r => r = (.func (.func 43) ⟨[]⟩ ⟨[ptr h.next 0]⟩, h.push (.cells [ptr b 0] 0)) := by
    rw [EF_body (O := O0) (by kernel_rfl) Try.func38 rfl (rs := [.tmp 2]) rfl (bad := []) (by kernel_rfl) _ _ (m := 4) rfl]
    simp (maxSteps := 1000000) (disch := first | decide | omega | (simp only [go_sem]; first | done | omega)) only [go_sem, Int.reduceToNat, Nat.reduceMul, Nat.reduceAdd, Nat.reduceSub, ↓EU_region, ↓EU_draw]
  obtain ⟨q, e, rfl⟩ := this
  exact e
theorem above_fn (b : Nat) (k : Int) (h : Heap) : EF Try.prog O0 29 [ptr b 0, .int .i64 k] h = some (.func (.func 37) ⟨[]⟩ ⟨[ptr h.next 0, ptr (h.next + 1) 0]⟩, (h.push (.cells [ptr b 0] 0)).push (.cells [.int .i64 k] 0)) := by
  have : WPo (EF Try.prog O0 29 [ptr b 0, .int .i64 k] h) fun r => r = (.func (.func 37) ⟨[]⟩ ⟨[ptr h.next 0, ptr (h.next + 1) 0]⟩, (h.push (.cells [ptr b 0] 0)).push (.cells [.int .i64 k] 0)) := by
    rw [EF_body (O := O0) (by kernel_rfl) Try.func29 rfl (rs := [.tmp 4]) rfl (bad := []) (by kernel_rfl) _ _ (m := 6) rfl]
    simp (maxSteps := 1000000) (disch := first | decide | omega | (simp only [go_sem]; first | done | omega)) only [go_sem, Int.reduceToNat, Nat.reduceMul, Nat.reduceAdd, Nat.reduceSub, ↓EU_region, ↓EU_draw]
  obtain ⟨q, e, rfl⟩ := this
  exact e
set_option maxHeartbeats 4000000 in
theorem above_it {base : Heap} {b : Nat} {lv : Value} {mb : Nat} {most st : Int} {l : List QI} (q : QR base b lv mb most st l) (A K : Nat) (k : Int) (bx : List (Nat × Value)) (hA : (A, ptr b 0) ∈ bx) (hK : (K, Value.int .i64 k) ∈ bx) (hl : l.length < 800000) :
    Iter Try.prog O0 argQ 37 [ptr A 0, ptr K 0] ((srtQ l).filter fun x => decide (k < x.key)) bx base := by
  intro yv I D h0 W0 yc fI fD fb x0 b0 i0 hy
  rw [EF_body (O := O0) (by kernel_rfl) Try.func37 rfl (rs := []) rfl (bad := []) (by kernel_rfl) _ _ (m := 20) rfl]
  have gA : h0.get A = .cells [ptr b 0] 0 := (b0 _ hA).1
  have nA : A < h0.next := (b0 _ hA).2
  have wlt : ∀ j, W0 j → j < h0.next := fun j hj => (fb _ _ _ i0 j hj).2.1
  simp (maxSteps := 1000000) (disch := first | decide | omega | (simp only [go_sem]; first | done | omega)) only [go_sem, Int.reduceToNat, Nat.reduceMul, Nat.reduceAdd, Nat.reduceSub, ↓EU_region, ↓EU_draw, gA, all_fn, yc]
  have x1 : Ext h0 ((h0.push (.cells [yv] 0)).push (.cells [ptr b 0] 0)) := by repeat (first | exact Ext.refl _ | assumption | refine Ext.push ?_ _ | refine Ext.set ?_ _ _ (by first | omega | (simp only [next_push, next_set]; omega)))
  have gY : ((h0.push (.cells [yv] 0)).push (.cells [ptr b 0] 0)).get h0.next = .cells [yv] 0 := by simp (maxSteps := 1000000) (disch := first | decide | omega | (simp only [go_sem]; first | done | omega)) only [go_sem, Int.reduceToNat, Nat.reduceMul, Nat.reduceAdd, Nat.reduceSub, ↓EU_region, ↓EU_draw]
  have gB : ((h0.push (.cells [yv] 0)).push (.cells [ptr b 0] 0)).get (h0.next + 1) = .cells [ptr b 0] 0 := by simp (maxSteps := 1000000) (disch := first | decide | omega | (simp only [go_sem]; first | done | omega)) only [go_sem, Int.reduceToNat, Nat.reduceMul, Nat.reduceAdd, Nat.reduceSub, ↓EU_region, ↓EU_draw]
  have n1 : ((h0.push (.cells [yv] 0)).push (.cells [ptr b 0] 0)).next = h0.next + 2 := by simp (maxSteps := 1000000) (disch := first | decide | omega | (simp only [go_sem]; first | done | omega)) only [go_sem, Int.reduceToNat, Nat.reduceMul, Nat.reduceAdd, Nat.reduceSub, ↓EU_region, ↓EU_draw]
  have b1 := b0.ext x1
  generalize (h0.push (.cells [yv] 0)).push (.cells [ptr b 0] 0) = h1 at *
  have hit := fun bx hA => all_it q (h0.next + 1) bx hA hl
  generalize srtQ l = M at *
  repeat refine WPo_ob ?_
  refine range_rule' stR (fun p h' => ((p = none ∧ ∃ W, I (M.filter fun x => decide (k < x.key)).length h' W ∧ ∀ j, W j → W0 j ∨ h1.next + 2 ≤ j) ∨ (p = some .ret ∧ ∃ W, D h' W ∧ ∀ j, W j → W0 j ∨ h1.next + 2 ≤ j)) ∧ h'.get h1.next = .defd ∧ h1.next < h'.next ∧ Mod W0 h0 h') stR_b ?_ ?_ ?_
  · intro LB hLB
    have g3 : ((h1.push .defd).push (LB .ready none)).get h1.next = .defd := by rw [get_push_old _ (by rw [next_push]; omega)]; exact get_push_new _ _
    have g4 : ((h1.push .defd).push (LB .ready none)).get (h1.next + 1) = LB .ready none := by rw [← next_push h1 .defd]; exact get_push_new _ _
    have gx : Ext h1 ((h1.push .defd).push (LB .ready none)) := ((Ext.refl h1).push _).push _
    have gn : ((h1.push .defd).push (LB .ready none)).next = h1.next + 2 := by rw [next_push, next_push]
    generalize (h1.push .defd).push (LB .ready none) = hb at *
    have e1 : Ext h0 hb := x1.trans gx
    have w0 : ∀ j, W0 j → j < h1.next := fun j hj => by have := wlt j hj; omega
    have ib := fI 0 _ hb W0 (fun _ => False) i0 (e1.mod _) (fun _ _ q => q)
    have bb : BX ((h0.next + 1, ptr b 0) :: (h0.next, yv) :: bx) hb := BX.cons ((gx.old _ (by omega)).trans gB) (by omega) (BX.cons ((gx.old _ (by omega)).trans gY) (by omega) (b1.ext gx))
    refine (hit ((h0.next + 1, ptr b 0) :: (h0.next, yv) :: bx) List.mem_cons_self (yieldV (h1.next + 1)) (fun i => nJ (I (cntU (fun x => decide (k < x.key)) M i)) W0 h1.next (h1.next + 2) (LB .ready none)) (nJ D W0 h1.next (h1.next + 2) (LB (.done) (some .ret))) hb (WU W0 h1.next) rfl (nJ_fr (fun i => fI (cntU (fun x => decide (k < x.key)) M i)) (by omega)) (nJ_fr fD (by omega)) ?_ (x0.trans e1) bb ⟨W0, rfl, ib, fun j hj => .inl hj, g4, g3, by omega⟩ ?_).mono ?_
    · rintro i h' W' ⟨W, rfl, ii, hW, k4, k3, kn⟩ j hj
      have hx0 := x0.le
      have hq : base.next ≤ j ∧ j < h'.next ∧ (∀ p ∈ bx, j ≠ p.1) ∧ j ≠ h0.next ∧ j ≠ h0.next + 1 := by
        rcases hj with e | e | e
        · have f1 := fb _ _ _ ii j e
          refine ⟨f1.1, f1.2.1, f1.2.2, ?_⟩
          rcases hW j e with q | q
          · have := wlt j q; omega
          · omega
        · exact ⟨by omega, by omega, fun p hp e2 => by have := (b0 p hp).2; omega, by omega, by omega⟩
        · exact ⟨by omega, by omega, fun p hp e2 => by have := (b0 p hp).2; omega, by omega, by omega⟩
      refine ⟨hq.1, hq.2.1, fun p hp => ?_⟩
      rcases List.mem_cons.1 hp with rfl | hp
      · exact hq.2.2.2.2
      · rcases List.mem_cons.1 hp with rfl | hp
        · exact hq.2.2.2.1
        · exact hq.2.2.1 p hp
    · rintro i x h' W' hx ⟨W, rfl, ii, hW, k4, k3, kn⟩ xx bb
      have bK : h'.get K = .cells [.int .i64 k] 0 := (bb (K, .int .i64 k) (List.mem_cons_of_mem _ (List.mem_cons_of_mem _ hK))).1
      have nK : K < h0.next := (b0 _ hK).2
      have bY : h'.get h0.next = .cells [yv] 0 := (bb (h0.next, yv) (List.mem_cons_of_mem _ List.mem_cons_self)).1
      unfold argI
      refine round_rule2 hLB k4 rfl (tm1 := ?_) (hA := h'.push (.cells [.int .i64 x.key, .int .i64 x.id] 0)) ?_ (by rw [get_push_old _ (by omega)]; exact k4) ?_
      rotate_left
      · rw [setP2, EC_EU (bad := []) (by kernel_rfl)]
        simp (maxSteps := 1000000) (disch := first | decide | omega | (simp only [go_sem]; first | done | omega)) only [go_sem, Int.reduceToNat, Nat.reduceMul, Nat.reduceAdd, Nat.reduceSub, ↓EU_region, ↓EU_draw]
        rfl
      · rw [EC_EU (bad := []) (by kernel_rfl)]
        have kx : ((h'.push (.cells [.int .i64 x.key, .int .i64 x.id] 0)).set (h1.next + 1) (LB .busy none)).get h'.next = .cells [.int .i64 x.key, .int .i64 x.id] 0 := by rw [get_set_ne _ (by omega)]; exact get_push_new _ _
        have kK : ((h'.push (.cells [.int .i64 x.key, .int .i64 x.id] 0)).set (h1.next + 1) (LB .busy none)).get K = .cells [.int .i64 k] 0 := by rw [get_set_ne _ (by omega), get_push_old _ (by omega)]; exact bK
        have kY : ((h'.push (.cells [.int .i64 x.key, .int .i64 x.id] 0)).set (h1.next + 1) (LB .busy none)).get h0.next = .cells [yv] 0 := by rw [get_set_ne _ (by omega), get_push_old _ (by omega)]; exact bY
        have k4' : ((h'.push (.cells [.int .i64 x.key, .int .i64 x.id] 0)).set (h1.next + 1) (LB .busy none)).get (h1.next + 1) = LB .busy none := get_set_same _ _ _
        have k3' : ((h'.push (.cells [.int .i64 x.key, .int .i64 x.id] 0)).set (h1.next + 1) (LB .busy none)).get h1.next = .defd := by rw [get_set_ne _ (by omega), get_push_old _ (by omega)]; exact k3
        have mA : Mod (fun j => j = h1.next + 1) h' ((h'.push (.cells [.int .i64 x.key, .int .i64 x.id] 0)).set (h1.next + 1) (LB .busy none)) := ((Mod.refl _ _).push _).set _ _ (fun _ => rfl)
        have n2 : ((h'.push (.cells [.int .i64 x.key, .int .i64 x.id] 0)).set (h1.next + 1) (LB .busy none)).next = h'.next + 1 := by rw [next_set, next_push]
        have xx2 : Ext base ((h'.push (.cells [.int .i64 x.key, .int .i64 x.id] 0)).set (h1.next + 1) (LB .busy none)) := (xx.push _).set _ _ (by have := x0.le; omega)
        generalize (h'.push (.cells [.int .i64 x.key, .int .i64 x.id] 0)).set (h1.next + 1) (LB .busy none) = h2 at *
        have nW : ∀ j, W j → ¬ j = h1.next + 1 := fun j hj e => by
          rcases hW j hj with q | q
          · have := w0 j q; omega
          · omega
        have nW3 : ∀ j, W j → ¬ j = h1.next := fun j hj e => by
          rcases hW j hj with q | q
          · have := w0 j q; omega
          · omega
        have ii2 := fI _ _ _ _ _ ii mA nW
        have bb2 : BX bx h2 := BX.mod (fun p hp => bb p (List.mem_cons_of_mem _ (List.mem_cons_of_mem _ hp))) mA (fun p hp e => by have := (b0 p hp).2; omega)
        have mW : Mod (WU W h1.next) h' h2 := mA.mono fun j _ e => .inr (.inr e)
        by_cases hk : k < x.key
        · have dk : decide (k < x.key) = true := decide_eq_true hk
          have hyy := hy _ x h2 W (cntU_at (p := fun x : QI => decide (k < x.key)) hx dk) ii2 xx2 bb2
          unfold argQ at hyy
          simp (maxSteps := 1000000) (disch := first | decide | omega | (simp only [go_sem]; first | done | omega)) only [go_sem, Int.reduceToNat, Nat.reduceMul, Nat.reduceAdd, Nat.reduceSub, ↓EU_region, ↓EU_draw, kx, kK, kY, dk]
          repeat refine WPo_ob ?_
          refine hyy.mono ?_
          rintro ⟨v, h3⟩ ⟨r, m3⟩
          simp only at r m3
          have hm3 := m3.le
          have k43 : h3.get (h1.next + 1) = LB .busy none := by rw [m3.old _ (by omega) (fun e => nW _ e rfl)]; exact k4'
          have k33 : h3.get h1.next = .defd := by rw [m3.old _ (by omega) (fun e => nW3 _ e rfl)]; exact k3'
          have m4 : Mod (WU W h1.next) h' h3 := mW.own m3 fun j hj => .inl (.inl hj)
          have hsub : ∀ W2 : Nat → Prop, (∀ j, W2 j → W j ∨ h2.next ≤ j) → (∀ j, W2 j → W0 j ∨ h1.next + 2 ≤ j) ∧ ∀ j, WU W2 h1.next j → WU W h1.next j ∨ h'.next ≤ j := fun W2 w => ⟨fun j hj => by
            rcases w j hj with q | q
            · exact hW j q
            · exact .inr (by omega), fun j hj => by
            rcases hj with e | e
            · rcases w j e with q | q
              · exact .inl (.inl q)
              · exact .inr (by omega)
            · exact .inl (.inr e)⟩
          rcases r with ⟨rfl, W2, i3, w3⟩ | ⟨rfl, W2, d3, w3⟩
          · obtain ⟨s1, s2⟩ := hsub W2 w3
            simp (maxSteps := 1000000) (disch := first | decide | omega | (simp only [go_sem]; first | done | omega)) only [go_sem, Int.reduceToNat, Nat.reduceMul, Nat.reduceAdd, Nat.reduceSub, ↓EU_region, ↓EU_draw]
            refine ⟨k43, .inl ⟨trivial, .inl ⟨rfl, _, nJ_set fI (LB .ready none) ?_ s1 w0 (by omega) k33 (by omega), s2⟩, m4.set _ _ (fun _ => .inr (.inr rfl))⟩⟩
            rw [cntU_t hx dk]; exact i3
          · obtain ⟨s1, s2⟩ := hsub W2 w3
            simp (maxSteps := 1000000) (disch := first | decide | omega | (simp only [go_sem]; first | done | omega)) only [go_sem, Int.reduceToNat, Nat.reduceMul, Nat.reduceAdd, Nat.reduceSub, ↓EU_region, ↓EU_draw]
            exact ⟨k43, .inr (.inl ⟨trivial, .inr ⟨rfl, _, nJ_set fD (LB .done (some .ret)) (i := ()) d3 s1 w0 (by omega) k33 (by omega), s2⟩, m4.set _ _ (fun _ => .inr (.inr rfl))⟩)⟩
        · have dk : decide (k < x.key) = false := decide_eq_false hk
          simp (maxSteps := 1000000) (disch := first | decide | omega | (simp only [go_sem]; first | done | omega)) only [go_sem, Int.reduceToNat, Nat.reduceMul, Nat.reduceAdd, Nat.reduceSub, ↓EU_region, ↓EU_draw, kx, kK, kY, dk]
          refine ⟨k4', .inl ⟨trivial, .inl ⟨rfl, _, nJ_set fI (LB .ready none) ?_ hW w0 (by omega) k3' (by omega), fun j hj => .inl hj⟩, mW.set _ _ (fun _ => .inr (.inr rfl))⟩⟩
          rw [cntU_f hx dk]; exact ii2
    · rintro ⟨v, h'⟩ ⟨r, md⟩
      simp only at r md
      have mm : ∀ B, Mod W0 h0 (h'.set (h1.next + 1) B) := fun B => ((e1.mod W0).own md (fun j hj => by
        rcases hj with e | e | e
        · exact .inl e
        · exact .inr (by omega)
        · exact .inr (by omega))).set _ _ (fun _ => by omega)
      have mB : ∀ B, Mod (fun j => j = h1.next + 1) h' (h'.set (h1.next + 1) B) := fun B => (Mod.refl _ _).set _ _ (fun _ => rfl)
      have nW : ∀ W : Nat → Prop, (∀ j, W j → W0 j ∨ h1.next + 2 ≤ j) → ∀ j, W j → ¬ j = h1.next + 1 := fun W hW j hj e => by
        rcases hW j hj with q | q
        · have := w0 j q; omega
        · omega
      rcases r with ⟨W', ⟨W, rfl, ii, hW, k4, k3, kn⟩, _⟩ | ⟨W', ⟨W, rfl, dd, hW, k4, k3, kn⟩, _⟩
      · rw [cntU_len] at ii
        exact ⟨none, k4, .inl ⟨rfl, W, fI _ _ _ _ _ ii (mB _) (nW W hW), hW⟩, by rw [get_set_ne _ (by omega)]; exact k3, by have kn : h1.next + 2 ≤ h'.next := kn; show _ < (h'.set _ _).next; rw [next_set]; omega, mm _⟩
      · exact ⟨some .ret, k4, .inr ⟨rfl, W, fD () _ _ _ _ dd (mB _) (nW W hW), hW⟩, by rw [get_set_ne _ (by omega)]; exact k3, by have kn : h1.next + 2 ≤ h'.next := kn; show _ < (h'.set _ _).next; rw [next_set]; omega, mm _⟩
  · rintro h' ⟨r, k3, hn, md⟩
    have wlt2 : ∀ j, W0 j → ¬ j = h1.next := fun j hj e => by have := wlt j hj; omega
    rcases r with ⟨_, W, ii, hW⟩ | ⟨e, _⟩
    · have nW : ∀ j, W j → ¬ j = h1.next := fun j hj e => by
        rcases hW j hj with q | q
        · exact wlt2 j q e
        · omega
      simp (maxSteps := 1000000) (disch := first | decide | omega | (simp only [go_sem]; first | done | omega)) only [go_sem, Int.reduceToNat, Nat.reduceMul, Nat.reduceAdd, Nat.reduceSub, ↓EU_region, ↓EU_draw]
      rw [leaveK_dn _ _ _ _ _ k3]
      simp (maxSteps := 1000000) (disch := first | decide | omega | (simp only [go_sem]; first | done | omega)) only [go_sem, Int.reduceToNat, Nat.reduceMul, Nat.reduceAdd, Nat.reduceSub, ↓EU_region, ↓EU_draw]
      exact ⟨.inl ⟨W, fI _ _ _ _ (fun j => j = h1.next) ii ((Mod.refl _ _).set _ _ (fun _ => rfl)) nW, fun j hj => by
        rcases hW j hj with q | q
        · exact .inl q
        · exact .inr (by omega)⟩, md.set _ _ (fun _ => by omega)⟩
    · cases e
  · rintro c h' ⟨r, k3, hn, md⟩
    have wlt2 : ∀ j, W0 j → ¬ j = h1.next := fun j hj e => by have := wlt j hj; omega
    rcases r with ⟨e, _⟩ | ⟨e, W, dd, hW⟩
    · cases e
    cases e
    have nW : ∀ j, W j → ¬ j = h1.next := fun j hj e => by
      rcases hW j hj with q | q
      · exact wlt2 j q e
      · omega
    rw [EC_ret]
    refine ⟨_, rfl, ?_⟩
    simp (maxSteps := 1000000) (disch := first | decide | omega | (simp only [go_sem]; first | done | omega)) only [go_sem, Int.reduceToNat, Nat.reduceMul, Nat.reduceAdd, Nat.reduceSub, ↓EU_region, ↓EU_draw]
    rw [leaveK_dr _ _ _ _ _ k3]
    simp (maxSteps := 1000000) (disch := first | decide | omega | (simp only [go_sem]; first | done | omega)) only [go_sem, Int.reduceToNat, Nat.reduceMul, Nat.reduceAdd, Nat.reduceSub, ↓EU_region, ↓EU_draw]
    exact ⟨.inr ⟨W, fD () _ _ _ (fun j => j = h1.next) dd ((Mod.refl _ _).set _ _ (fun _ => rfl)) nW, fun j hj => by
        rcases hW j hj with q | q
        · exact .inl q
        · exact .inr (by omega)⟩, md.set _ _ (fun _ => by omega)⟩
/-- those above a key, in order -/
noncomputable def abv (k : Int) (l : List QI) : List QI := (srtQ l).filter fun x => decide (k < x.key)
theorem over_ev {h : Heap} {b : Nat} {lv : Value} {mb : Nat} {most st : Int} {l : List QI} (q : QR h b lv mb most st l) (k : Int) (hl : l.length < 800000) :
    WPo (EF Try.prog O0 15 [ptr b 0, .int .i64 k] h) fun r => OW qE 2 r.2 r.1 (abv k l) ∧ Fresh h.next r.1 ∧ Ext h r.2 := by
  rw [EF_body (O := O0) (by kernel_rfl) Try.func15 rfl (rs := [.tmp 4]) rfl (bad := []) (by kernel_rfl) _ _ (m := 9) rfl]
  simp (maxSteps := 1000000) (disch := first | decide | omega | (simp only [go_sem]; first | done | omega)) only [go_sem, Int.reduceToNat, Nat.reduceMul, Nat.reduceAdd, Nat.reduceSub, ↓EU_region, ↓EU_draw, above_fn]
  have x1 : Ext h ((h.push (.cells [ptr b 0] 0)).push (.cells [.int .i64 k] 0)) := by repeat (first | exact Ext.refl _ | assumption | refine Ext.push ?_ _ | refine Ext.set ?_ _ _ (by first | omega | (simp only [next_push, next_set]; omega)))
  have n1 : ((h.push (.cells [ptr b 0] 0)).push (.cells [.int .i64 k] 0)).next = h.next + 2 := by simp (maxSteps := 1000000) (disch := first | decide | omega | (simp only [go_sem]; first | done | omega)) only [go_sem, Int.reduceToNat, Nat.reduceMul, Nat.reduceAdd, Nat.reduceSub, ↓EU_region, ↓EU_draw]
  have hbx : BX [(h.next, ptr b 0), (h.next + 1, .int .i64 k)] ((h.push (.cells [ptr b 0] 0)).push (.cells [.int .i64 k] 0)) := BX.cons (by simp (maxSteps := 1000000) (disch := first | decide | omega | (simp only [go_sem]; first | done | omega)) only [go_sem, Int.reduceToNat, Nat.reduceMul, Nat.reduceAdd, Nat.reduceSub, ↓EU_region, ↓EU_draw]) (by omega) (BX.one (by simp (maxSteps := 1000000) (disch := first | decide | omega | (simp only [go_sem]; first | done | omega)) only [go_sem, Int.reduceToNat, Nat.reduceMul, Nat.reduceAdd, Nat.reduceSub, ↓EU_region, ↓EU_draw]) (by omega))
  have q1 := q.ext x1
  generalize (h.push (.cells [ptr b 0] 0)).push (.cells [.int .i64 k] 0) = h1 at *
  have it := above_it q1 h.next (h.next + 1) k [(h.next, ptr b 0), (h.next + 1, .int .i64 k)] List.mem_cons_self (List.mem_cons_of_mem _ List.mem_cons_self) hl
  have hfl : ((srtQ l).filter fun x => decide (k < x.key)).length < 800000 := Nat.lt_of_le_of_lt (List.length_filter_le _ _) (by rw [srtQ_len]; exact hl)
  repeat refine WPo_ob ?_
  refine (collect_ev _ _ _ h1 it hbx hfl).mono ?_
  rintro ⟨v, h2⟩ ⟨o2, f2, x2⟩
  simp only at o2 f2 x2
  simp (maxSteps := 1000000) (disch := first | decide | omega | (simp only [go_sem]; first | done | omega)) only [go_sem, Int.reduceToNat, Nat.reduceMul, Nat.reduceAdd, Nat.reduceSub, ↓EU_region, ↓EU_draw]
  exact ⟨o2, f2.mono (by omega), x1.trans x2⟩
end Go.Proofs.Ytchclddjifhcaaa.EV
