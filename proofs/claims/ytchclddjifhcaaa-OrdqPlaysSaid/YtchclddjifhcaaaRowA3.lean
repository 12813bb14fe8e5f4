/- A row of Acts (three numbers), read. No condition. -/
import Derived.Test.YtchclddjifhcaaaLawOPlays
namespace Go.Proofs.Ytchclddjifhcaaa.EV
open Go Go.RowKit Go.ChangeShapes Go.WideShapes Go.ChangeAt Go.Deep Go.Joins
set_option linter.unusedVariables false
set_option maxRecDepth 100000
section
variable {H : Type} {enc : TypeId × Value → H} {w : World} {base : Nat} {spare : Nat → Bool} {held : Bool}
theorem open_a3 {fuel : Nat} {cs : List Value} {x : DataW H × List MemPlace} (h : DataW.trod enc Try.prog w base spare held fuel 52 cs = some x) :
    ∃ z : Act3, cs = aE z ∧ aWf z := by
  obtain ⟨y0, y1, y2, n, _, hl, t0, t1, t2⟩ := trod_struct3 Try.underlying52 h
  have hc : Try.prog.cellsOf 52 = 3 := by kernel_rfl
  have hi : Try.prog.cellsOf 3 = 1 := by kernel_rfl
  have hj : Try.prog.cellsOf 2 = 1 := by kernel_rfl
  rw [hc] at hl
  match cs, hl with
  | [c0, c1, c2], _ =>
    simp only [hi, hj, List.drop_zero, List.drop_succ_cons, List.take_succ_cons, List.take_zero] at t0 t1 t2
    obtain ⟨n0, e0, _, w0⟩ := DataW.trod_int Try.underlying3 t0
    obtain ⟨n1, e1, _, w1⟩ := DataW.trod_int Try.underlying3 t1
    obtain ⟨n2, e2, _, w2⟩ := DataW.trod_int Try.underlying2 t2
    injection e0 with e0
    injection e1 with e1
    injection e2 with e2
    subst e0; subst e1; subst e2
    exact ⟨⟨n0, n1, n2⟩, rfl, w0, w1, w2⟩
end
theorem aE_flat (l : List Act3) : ∀ x ∈ l, ∀ u ∈ aE x, flat1 u = true := by
  intro x _ u hu
  exact List.all_eq_true.1 (aE_flatV x) u hu
end Go.Proofs.Ytchclddjifhcaaa.EV
