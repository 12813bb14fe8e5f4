/- A row of load.Tasks, read. No condition. -/
import Derived.Test.YtnopeboieicipaaLoad6
import Derived.Lib.SmallJoins
namespace Go.Proofs.Ytnopeboieicipaa.EV
open Go Go.RowKit Go.ChangeShapes Go.WideShapes Go.ChangeAt Go.Deep Go.Joins
set_option linter.unusedVariables false
noncomputable def TkWf (x : Tk) : Prop := (Lit.int .i64 x.id).wf = true ∧ (Lit.int .i64 x.w).wf = true ∧ (Lit.int .i64 x.core).wf = true ∧ x.mask < 65536
theorem tkE_flatV (x : Tk) : (tkE x).all flat1 = true := rfl
section
variable {H : Type} {enc : TypeId × Value → H} {w : World} {base : Nat} {spare : Nat → Bool} {held : Bool}
theorem open_tk {fuel : Nat} {cs : List Value} {x : DataW H × List MemPlace} (h : DataW.trod enc Try.prog w base spare held fuel 33 cs = some x) :
    ∃ z : Tk, cs = tkE z ∧ TkWf z := by
  obtain ⟨y0, y1, y2, y3, n, _, hl, t0, t1, t2, t3⟩ := trod_struct4 Try.underlying33 h
  have hc : Try.prog.cellsOf 33 = 4 := by kernel_rfl
  have hi : Try.prog.cellsOf 3 = 1 := by kernel_rfl
  have hm : Try.prog.cellsOf 24 = 1 := by kernel_rfl
  rw [hc] at hl
  match cs, hl with
  | [c0, c1, c2, c3], _ =>
    simp only [hi, hm, List.drop_zero, List.drop_succ_cons, List.take_succ_cons, List.take_zero] at t0 t1 t2 t3
    obtain ⟨n0, e0, _, w0⟩ := DataW.trod_int Try.underlying3 t0
    obtain ⟨n1, e1, _, w1⟩ := DataW.trod_int Try.underlying3 t1
    obtain ⟨n2, e2, _, w2⟩ := DataW.trod_int Try.underlying3 t2
    obtain ⟨n3, e3, _, w3⟩ := DataW.trod_int Try.underlying24 t3
    injection e0 with e0
    injection e1 with e1
    injection e2 with e2
    injection e3 with e3
    subst e0; subst e1; subst e2; subst e3
    have hb : 0 ≤ n3 ∧ n3 < 65536 := by
      simp only [Lit.wf, Bool.and_eq_true, decide_eq_true_eq] at w3
      have h1 : IntKind.u16.min = 0 := rfl
      have h2 : IntKind.u16.max = 65535 := rfl
      omega
    obtain ⟨k, rfl⟩ := Int.eq_ofNat_of_zero_le hb.1
    exact ⟨⟨n0, n1, n2, k⟩, rfl, w0, w1, w2, by show k < 65536; omega⟩
end
theorem tkE_flat (l : List Tk) : ∀ x ∈ l, ∀ u ∈ tkE x, flat1 u = true := by
  intro x _ u hu
  exact List.all_eq_true.1 (tkE_flatV x) u hu
end Go.Proofs.Ytnopeboieicipaa.EV
