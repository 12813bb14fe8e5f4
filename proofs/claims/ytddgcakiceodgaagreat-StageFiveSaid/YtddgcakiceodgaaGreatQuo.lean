/- Quotients and rests. No condition. -/
import Derived.Test.YtddgcakiceodgaaGreatSy7
namespace Go.Proofs.YtddgcakiceodgaaGreat.EV
open Go Go.Proofs
theorem bin_quo0 (P : Program) (t : TypeId) (x y : Operand) (k : IntKind) (a b : Int) (hb : b ≠ 0) : evBin P .quo t x y (.int k a) (.int k b) = some (.int k (k.wrap (a.tdiv b))) := by
  have h1 : binOp .quo t (.int k a) (.int k b) = pure (.int k (k.wrap (a.tdiv b))) := by
    unfold binOp
    simp only [ne_eq, not_true_eq_false, if_false]
    unfold Op.intDiv
    rw [if_neg hb]
  have hf : fastBin .quo (.int k a) (.int k b) = none := by cases k <;> rfl
  unfold evBin
  rw [hf]
  show orE none (cnd true (match absPure P (eqGuard .quo t x y (.int k a) (.int k b) >>= fun _ => binOp .quo t (.int k a) (.int k b)) with | some v => cnd (flat1 v) (some v) none | none => none) _) = _
  rw [h1]
  rfl
theorem bin_rem0 (P : Program) (t : TypeId) (x y : Operand) (k : IntKind) (a b : Int) (hb : b ≠ 0) : evBin P .rem t x y (.int k a) (.int k b) = some (.int k (a.tmod b)) := by
  have h1 : binOp .rem t (.int k a) (.int k b) = pure (.int k (a.tmod b)) := by
    unfold binOp
    simp only [ne_eq, not_true_eq_false, if_false]
    unfold Op.intDiv
    rw [if_neg hb]
  have hf : fastBin .rem (.int k a) (.int k b) = none := by cases k <;> rfl
  unfold evBin
  rw [hf]
  show orE none (cnd true (match absPure P (eqGuard .rem t x y (.int k a) (.int k b) >>= fun _ => binOp .rem t (.int k a) (.int k b)) with | some v => cnd (flat1 v) (some v) none | none => none) _) = _
  rw [h1]
  rfl
theorem bin_quo (P : Program) (t : TypeId) (x y : Operand) (k : IntKind) (a b : Int) (hb : b ≠ 0) : evBin P .quo t x y (.int k a) (.int k b) = some (.int k (wrapF k (a.tdiv b))) := by
  rw [bin_quo0 P t x y k a b hb, wrapF_eq]
end Go.Proofs.YtddgcakiceodgaaGreat.EV
