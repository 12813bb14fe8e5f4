/- A row of Acts, read. No condition. -/
import Derived.Test.YtagjgigknnaphaaGrpA
namespace Go.Proofs.Ytagjgigknnaphaa.EV
open Go Go.RowKit Go.ChangeShapes Go.WideShapes Go.ChangeAt Go.Deep Go.Joins
set_option linter.unusedVariables false
structure Act2 where
  op : Int
  id : Int
noncomputable def actE (x : Act2) : List Value := [.int .i64 x.op, .int .i64 x.id]
theorem actE_len (x : Act2) : (actE x).length = 2 := rfl
theorem actE_flatV (x : Act2) : (actE x).all flat1 = true := rfl
noncomputable def ActWf (x : Act2) : Prop := (Lit.int .i64 x.op).wf = true ∧ (Lit.int .i64 x.id).wf = true
section
variable {H : Type} {enc : TypeId × Value → H} {w : World} {base : Nat} {spare : Nat → Bool} {held : Bool}
theorem open_act {fuel : Nat} {cs : List Value} {x : DataW H × List MemPlace} (h : DataW.trod enc Try.prog w base spare held fuel 42 cs = some x) :
    ∃ z : Act2, cs = actE z ∧ ActWf z := by
  obtain ⟨y0, y1, n, _, hl, t0, t1⟩ := trod_struct2 Try.underlying42 h
  have hc : Try.prog.cellsOf 42 = 2 := by kernel_rfl
  have hi : Try.prog.cellsOf 3 = 1 := by kernel_rfl
  rw [hc] at hl
  match cs, hl with
  | [c0, c1], _ =>
    simp only [hi, List.drop_zero, List.drop_succ_cons, List.take_succ_cons, List.take_zero] at t0 t1
    obtain ⟨n0, e0, _, w0⟩ := DataW.trod_int Try.underlying3 t0
    obtain ⟨n1, e1, _, w1⟩ := DataW.trod_int Try.underlying3 t1
    injection e0 with e0
    injection e1 with e1
    subst e0; subst e1
    exact ⟨⟨n0, n1⟩, rfl, w0, w1⟩
end
theorem actE_flat (l : List Act2) : ∀ x ∈ l, ∀ u ∈ actE x, flat1 u = true := by
  intro x _ u hu
  exact List.all_eq_true.1 (actE_flatV x) u hu
end Go.Proofs.Ytagjgigknnaphaa.EV
