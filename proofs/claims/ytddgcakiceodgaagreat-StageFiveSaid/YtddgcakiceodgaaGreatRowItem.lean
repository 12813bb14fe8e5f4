/- A row of owed.Items, read. No condition. -/
import Derived.Test.YtddgcakiceodgaaGreatOwed2
namespace Go.Proofs.YtddgcakiceodgaaGreat.EV
open Go Go.RowKit Go.ChangeShapes Go.WideShapes Go.ChangeAt Go.Deep Go.Joins
set_option linter.unusedVariables false
set_option maxRecDepth 100000
noncomputable def ItemWf (x : Item) : Prop := (Lit.int .i64 x.id).wf = true ∧ (Lit.int .i64 x.w).wf = true ∧ (Lit.int .i64 x.lag).wf = true
section
variable {H : Type} {enc : TypeId × Value → H} {w : World} {base : Nat} {spare : Nat → Bool} {held : Bool}
theorem open_item {fuel : Nat} {cs : List Value} {x : DataW H × List MemPlace} (h : DataW.trod enc Tryz.prog w base spare held fuel 43 cs = some x) :
    ∃ z : Item, cs = itemE z ∧ ItemWf z := by
  obtain ⟨y0, y1, y2, n, _, hl, t0, t1, t2⟩ := trod_struct3 Tryz.underlying43 h
  have hc : Tryz.prog.cellsOf 43 = 3 := by kernel_rfl
  have hi : Tryz.prog.cellsOf 3 = 1 := by kernel_rfl
  have hj : Tryz.prog.cellsOf 2 = 1 := by kernel_rfl
  rw [hc] at hl
  match cs, hl with
  | [c0, c1, c2], _ =>
    simp only [hi, hj, List.drop_zero, List.drop_succ_cons, List.take_succ_cons, List.take_zero] at t0 t1 t2
    obtain ⟨n0, e0, _, w0⟩ := DataW.trod_int Tryz.underlying3 t0
    obtain ⟨n1, e1, _, w1⟩ := DataW.trod_int Tryz.underlying3 t1
    obtain ⟨n2, e2, _, w2⟩ := DataW.trod_int Tryz.underlying2 t2
    injection e0 with e0
    injection e1 with e1
    injection e2 with e2
    subst e0; subst e1; subst e2
    exact ⟨⟨n0, n1, n2⟩, rfl, w0, w1, w2⟩
end
theorem itemE_flat (l : List Item) : ∀ x ∈ l, ∀ u ∈ itemE x, flat1 u = true := by
  intro x _ u hu
  exact List.all_eq_true.1 (itemE_flatV x) u hu
end Go.Proofs.YtddgcakiceodgaaGreat.EV
