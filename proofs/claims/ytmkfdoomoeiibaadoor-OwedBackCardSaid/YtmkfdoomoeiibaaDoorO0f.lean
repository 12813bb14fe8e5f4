/- What is told beside: numbers written (strconv.Itoa, FormatInt); sorting; the seat's 'awake'. No condition. -/
import Derived.Test.YtmkfdoomoeiibaaDoorO0g
import Derived.Test.YtmkfdoomoeiibaaDoorSort3
namespace Go.Proofs.YtmkfdoomoeiibaaDoor.EV
open Go Go.Proofs
noncomputable def O0 : Orc := fun f => if f = 7 then some closedT else if f = 19 then some itoaT else if f = 20 then some fintT else if f = 27 then some sort3T else none
theorem O0_sound : SO Tryd.prog O0 := fun f g h args h0 v h' e => by
  unfold O0 at h
  split at h
  · rename_i q
    subst q
    cases h
    obtain ⟨h2, hr⟩ := okT_inv awake_run
    cases args with
    | cons _ _ => cases e
    | nil =>
      cases e
      exact pure_sound hN hmix O1_sound (EF_iff.2 ⟨_, hr⟩) rfl rfl _
  · split at h
    · rename_i q
      subst q
      cases h
      exact itoaT_sound e
    · split at h
      · rename_i q
        subst q
        cases h
        exact fintT_sound e
      · split at h
        · rename_i q
          subst q
          cases h
          exact sort3T_sound e
        · cases h
theorem awake_ev (h : Heap) : EF Tryd.prog O0 7 [] h = some (.bool true, h) := by
  rw [EF_eq]
  unfold stepO
  have : O0 7 = some closedT := by kernel_rfl
  rw [this]
  rfl
theorem itoa_ev (n : Int) (h : Heap) (h0 : -9223372036854775808 ≤ n) (h1 : n ≤ 9223372036854775807) : EF Tryd.prog O0 19 [.int .i64 n] h = some (strV (itoaB n), h) := by
  rw [EF_eq]
  unfold stepO
  have : O0 19 = some itoaT := by kernel_rfl
  rw [this]
  show cnd (decide (-9223372036854775808 ≤ n) && decide (n ≤ 9223372036854775807)) _ _ = _
  rw [decide_eq_true h0, decide_eq_true h1]
  rfl
theorem fint_ev (n : Int) (h : Heap) (h0 : -9223372036854775808 ≤ n) (h1 : n ≤ 9223372036854775807) : EF Tryd.prog O0 20 [.int .i64 n, .int .i64 10] h = some (strV (itoaB n), h) := by
  rw [EF_eq]
  unfold stepO
  have : O0 20 = some fintT := by kernel_rfl
  rw [this]
  show cnd (decide ((10 : Int) = 10) && (decide (-9223372036854775808 ≤ n) && decide (n ≤ 9223372036854775807))) _ _ = _
  rw [decide_eq_true h0, decide_eq_true h1]
  rfl
end Go.Proofs.YtmkfdoomoeiibaaDoor.EV
