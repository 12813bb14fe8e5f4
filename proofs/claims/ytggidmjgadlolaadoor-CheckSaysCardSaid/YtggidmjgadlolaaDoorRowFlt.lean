/- A row of check.Faults, read. No condition. -/
import Derived.Test.YtggidmjgadlolaaDoorChk1
import Derived.Test.YtggidmjgadlolaaDoorRowItem
namespace Go.Proofs.YtggidmjgadlolaaDoor.EV
open Go Go.RowKit Go.ChangeShapes Go.WideShapes Go.ChangeAt Go.Deep Go.Joins
set_option linter.unusedVariables false
noncomputable def FltWf (x : Flt) : Prop := (Lit.int .i64 x.kind).wf = true ∧ (Lit.int .i64 x.id).wf = true
section
variable {H : Type} {enc : TypeId × Value → H} {w : World} {base : Nat} {spare : Nat → Bool} {held : Bool}
theorem open_flt {fuel : Nat} {cs : List Value} {x : DataW H × List MemPlace} (h : DataW.trod enc Tryd.prog w base spare held fuel 34 cs = some x) :
    ∃ z : Flt, cs = fltE z ∧ FltWf z := by
  obtain ⟨y0, y1, n, _, hl, t0, t1⟩ := trod_struct2 Tryd.underlying34 h
  have hc : Tryd.prog.cellsOf 34 = 2 := by kernel_rfl
  have hi : Tryd.prog.cellsOf 3 = 1 := by kernel_rfl
  rw [hc] at hl
  match cs, hl with
  | [c0, c1], _ =>
    simp only [hi, List.drop_zero, List.drop_succ_cons, List.take_succ_cons, List.take_zero] at t0 t1
    obtain ⟨n0, e0, _, w0⟩ := DataW.trod_int Tryd.underlying3 t0
    obtain ⟨n1, e1, _, w1⟩ := DataW.trod_int Tryd.underlying3 t1
    injection e0 with e0
    injection e1 with e1
    subst e0; subst e1
    exact ⟨⟨n0, n1⟩, rfl, w0, w1⟩
end
theorem fltE_flatV (x : Flt) : (fltE x).all flat1 = true := rfl
theorem fltE_flat (l : List Flt) : ∀ x ∈ l, ∀ u ∈ fltE x, flat1 u = true := by
  intro x _ u hu
  exact List.all_eq_true.1 (fltE_flatV x) u hu
end Go.Proofs.YtggidmjgadlolaaDoor.EV
