/-
  For every three 64-bit numbers the law WholeHeld returns true: what is held lies between its bounds, as near as may be. No condition.
-/
import Derived.Test.YthaacidfpcljfaaWholeBase
namespace Go.Proofs.Ythaacidfpcljfaa.Pure
open Go.RowKit Go.Proofs.Ythaacidfpcljfaa.PA Go.Proofs.YthaacidfpcljfaaW.PrintWords Go.Proofs.YthaacidfpcljfaaW.PrintLast

theorem held_is (a lo hi : Int) : Ev (fun k => whole_Held.f k a lo hi) (if lo > hi ∨ a < lo then lo else if a > hi then hi else a) := by
  refine ⟨1, fun k hk => ?_⟩
  obtain ⟨n, rfl⟩ : ∃ n, k = n + 1 := ⟨k - 1, by omega⟩
  simp only [whole_Held.f, whole_Held.j0]
  by_cases c : lo > hi
  · simp [c]
  · by_cases d : a < lo
    · simp [c, d]
    · simp [c, d]
      split <;> rfl
theorem WholeHeld : stadholderlaw1_WholeHeld.Pure := by
  intro a lo hi ha hl hh
  refine Ev.rounds ?_
  unfold stadholderlaw1_WholeHeld.f
  refine Ev.bind awake_is ?_
  simp only [if_true]
  refine Ev.bind (held_is a lo hi) ?_
  refine Ev.congr (fun k => ?_) (Ev.now _)
  by_cases c : lo > hi
  · simp [c]
  · by_cases d : a < lo
    · simp only [c, d, if_true, if_false, or_true]
      rw [if_pos (by omega), if_pos (by omega), if_neg (by omega)]
    · by_cases e : a > hi
      · simp only [c, d, e, if_true, if_false, or_self]
        rw [if_pos (by omega), if_pos (by omega), if_neg (by omega)]
        simp
      · simp only [c, d, e, if_true, if_false, or_self]
        rw [if_pos (by omega), if_pos (by omega)]

end Go.Proofs.Ythaacidfpcljfaa.Pure
