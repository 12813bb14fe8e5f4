/- What is told beside: the seat's 'awake', numbers written by strconv and by the reference. No condition. -/
import Derived.Test.YtggidmjgadlolaaDoorNum2
namespace Go.Proofs.YtggidmjgadlolaaDoor.EV
open Go Go.Proofs
set_option maxRecDepth 100000 in
theorem awake_run : okT ((ev Tryd.prog 4000).F 8 [] ⟨0, .nil⟩) = true := by decide +kernel
noncomputable def O0 : Orc := fun f => if f = 8 then some closedT else if f = 22 then some itoaT else if f = 25 then some numT else none
theorem O0_sound : SO Tryd.prog O0 := fun f g h args h0 v h' e => by
  unfold O0 at h
  split at h
  · rename_i q
    subst q
    cases h
    exact closed_sound hN hmix awake_run e
  · split at h
    · rename_i q
      subst q
      cases h
      exact itoaT_sound e
    · split at h
      · rename_i q
        subst q
        cases h
        exact numT_sound e
      · cases h
theorem awake_ev (h : Heap) : EF Tryd.prog O0 8 [] h = some (.bool true, h) := by
  rw [EF_eq]
  unfold stepO
  have : O0 8 = some closedT := by kernel_rfl
  rw [this]
  rfl
theorem itoa_ev (n : Int) (h : Heap) (h0 : -9223372036854775808 ≤ n) (h1 : n ≤ 9223372036854775807) : EF Tryd.prog O0 22 [.int .i64 n] h = some (strV (itoaB n), h) := by
  rw [EF_eq]
  unfold stepO
  have : O0 22 = some itoaT := by kernel_rfl
  rw [this]
  show cnd (decide (-9223372036854775808 ≤ n) && decide (n ≤ 9223372036854775807)) _ _ = _
  rw [decide_eq_true h0, decide_eq_true h1]
  rfl
theorem num_ev (n : Int) (h : Heap) (h0 : -9223372036854775808 ≤ n) (h1 : n ≤ 9223372036854775807) : EF Tryd.prog O0 25 [.int .i64 n] h = some (strV (itoaB n), h) := by
  rw [EF_eq]
  unfold stepO
  have : O0 25 = some numT := by kernel_rfl
  rw [this]
  show cnd (decide (-9223372036854775808 ≤ n) && decide (n ≤ 9223372036854775807)) _ _ = _
  rw [decide_eq_true h0, decide_eq_true h1]
  rfl
end Go.Proofs.YtggidmjgadlolaaDoor.EV
