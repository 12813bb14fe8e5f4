/- A method, called through an interface. No condition. -/
import Derived.Test.YtddgcakiceodgaaGreatO0
namespace Go.Proofs.YtddgcakiceodgaaGreat.EV
open Go Go.Proofs
set_option linter.unusedVariables false
set_option linter.unusedSimpArgs false
set_option maxRecDepth 100000
noncomputable def INV (P : Program) (O : Orc) (h : Heap) (args : List Value) (m : String) (v : Value) : VH := evInvV P (EVR P O) h args m v
unseal ROP in
theorem R_invoke {P : Program} {O : Orc} {tm : Fr} {h : Heap} {ms : List Nat} (t : Tmp) (m : String) (args : Array Operand) (ts : Array TypeId) : ROP P O (.call { callee := .invoke (.tmp t) m, args := args, argTypes := ts }) ⟨tm, h, ms⟩ = ob (opnds tm args.toList) fun a => INV P O h a m (Fr.get tm t) := (rfl)
theorem INV_ev {P : Program} {O : Orc} {h : Heap} {t : TypeId} {v x : Value} {f : FuncId} {m : String} {a : List Value} (hm : methV P h 20 t v m = some (f, x)) : INV P O h a m (.iface t v) = EF P O f (x :: a) h := by
  unfold INV evInvV ifaceV
  rw [ob_some]
  simp only
  rw [hm, ob_some]
  rfl
attribute [irreducible] INV
attribute [go_sem] R_invoke
end Go.Proofs.YtddgcakiceodgaaGreat.EV
