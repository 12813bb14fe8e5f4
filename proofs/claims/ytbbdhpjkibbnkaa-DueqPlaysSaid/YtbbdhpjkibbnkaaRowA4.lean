/- A row of Acts (four numbers), read. No condition. -/
import Derived.Test.YtbbdhpjkibbnkaaLawDPlays
import Derived.Lib.SmallJoins
namespace Go.Proofs.Ytbbdhpjkibbnkaa.EV
open Go Go.RowKit Go.ChangeShapes Go.WideShapes Go.ChangeAt Go.Deep Go.Joins
set_option linter.unusedVariables false
set_option maxRecDepth 100000
section
variable {H : Type} {enc : TypeId × Value → H} {w : World} {base : Nat} {spare : Nat → Bool} {held : Bool}
theorem open_a4 {fuel : Nat} {cs : List Value} {x : DataW H × List MemPlace} (h : DataW.trod enc Try.prog w base spare held fuel 48 cs = some x) :
    ∃ z : Act4, cs = aE z ∧ aWf z := by
  obtain ⟨y0, y1, y2, y3, n, _, hl, t0, t1, t2, t3⟩ := trod_struct4 Try.underlying48 h
  have hc : Try.prog.cellsOf 48 = 4 := by kernel_rfl
  have hi : Try.prog.cellsOf 3 = 1 := by kernel_rfl
  have hj : Try.prog.cellsOf 2 = 1 := by kernel_rfl
  rw [hc] at hl
  match cs, hl with
  | [c0, c1, c2, c3], _ =>
    simp only [hi, hj, List.drop_zero, List.drop_succ_cons, List.take_succ_cons, List.take_zero] at t0 t1 t2 t3
    obtain ⟨n0, e0, _, w0⟩ := DataW.trod_int Try.underlying3 t0
    obtain ⟨n1, e1, _, w1⟩ := DataW.trod_int Try.underlying3 t1
    obtain ⟨n2, e2, _, w2⟩ := DataW.trod_int Try.underlying2 t2
    obtain ⟨n3, e3, _, w3⟩ := DataW.trod_int Try.underlying2 t3
    injection e0 with e0
    injection e1 with e1
    injection e2 with e2
    injection e3 with e3
    subst e0; subst e1; subst e2; subst e3
    exact ⟨⟨n0, n1, n2, n3⟩, rfl, w0, w1, w2, w3⟩
end
theorem aE_flat (l : List Act4) : ∀ x ∈ l, ∀ u ∈ aE x, flat1 u = true := by
  intro x _ u hu
  exact List.all_eq_true.1 (aE_flatV x) u hu
end Go.Proofs.Ytbbdhpjkibbnkaa.EV
