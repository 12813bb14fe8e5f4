-- by a program of this session, out of the translation
import Derived.Test.YtcmgioafkacgdaaPAx0
import Derived.Test.YtcmgioafkacgdaaPAx1
import Derived.Test.YtcmgioafkacgdaaPAx3
import Derived.Test.YtcmgioafkacgdaaPAx4
import Derived.Lib.SlBytesConst
namespace Go.Proofs.Ytcmgioafkacgdaa.PA
open Go.RowKit Go.Proofs.YtcmgioafkacgdaaW.PrintWords Go.Proofs.YtcmgioafkacgdaaW.PrintLast Go.Proofs.YtcmgioafkacgdaaW.PrintMore
attribute [local go_sem] max2_int min2_int max_two min_two max_three min_three max_four min_four   -- for this text's walks alone
set_option linter.unusedVariables false
set_option linter.unusedSimpArgs false

/-! ### stadholderlaw17_SealKnown: function 3 (by hand) -/
--IMPORT Derived.Lib.SlBytesConst
def stadholderlaw17_SealKnown.f (k : Nat) : Option Bool :=
  if stadholderlaw17_awake.f k = some true ∧ seal_Get.f k [] = some ([], 9) ∧ seal_Get.f k [1, 2, 3] = some ([], 9) ∧ seal_Get.f k [0, 0, 0, 0] = some ([], 0) ∧ seal_Get.f k [0, 0, 0, 1] = some ([], 9) ∧ seal_Put.f k nine = some (nine ++ [227, 6, 146, 131]) ∧ seal_Of.f k [] = some 0 then some true else none
def stadholderlaw17_SealKnown.Pure : Prop := ∃ k, stadholderlaw17_SealKnown.f k = some true
set_option maxHeartbeats 8000000 in
set_option maxRecDepth 100000 in
theorem stadholderlaw17_SealKnown.walk (P : stadholderlaw17_SealKnown.Pure) (w : World) :
    Calls Try.prog 3 #[] w fun e w' => e = .returned (.bool true) ∧ Below w.heap.size w w' := by
  obtain ⟨k, h⟩ := P
  unfold stadholderlaw17_SealKnown.f at h
  split at h
  case isFalse => cases h
  rename_i hh
  clear h
  obtain ⟨h0, h1, h2, h3, h4, h5, h6⟩ := hh
  replace h0 := Aside0.mk h0
  replace h1 := Aside0.mk h1
  replace h2 := Aside0.mk h2
  replace h3 := Aside0.mk h3
  replace h4 := Aside0.mk h4
  replace h5 := Aside0.mk h5
  replace h6 := Aside0.mk h6
  have kc := fun (w : World) (C : Array Value) (n c : Nat) => Lib.run_convert_bytes_const (P := Try.prog) w 23 5 C n c Try.underlying23 Try.underlying5
  have HB := Aside0.mk (Below.refl w.heap.size w)
  go_enter Try.func3, Try.ntmps3
  go_wp2_with fail
  refine (stadholderlaw17_awake.calls k true _ h0.out).mono ?_
  rintro e w1 ⟨rfl, hb⟩
  have HB1 := Aside0.mk (below_step HB.out hb)
  clear hb HB
  go_wp2_with fail
  refine (seal_Get.calls k none 0 [] [] 9 _ (Kd.C_nil _ _) (by decide) h1.out).mono ?_
  rintro e w2 ⟨v, rfl, ho, hb⟩
  have HB2 := Aside0.mk (below_step HB1.out hb)
  clear hb HB1 ho
  go_wp2_with fail
  refine (seal_Get.calls k _ _ [1, 2, 3] [] 9 _ (text_C [1, 2, 3] (alloc_at _ _) rfl (by decide)) (by decide) h2.out).mono ?_
  rintro e w3 ⟨v, rfl, ho, hb⟩
  have HB3 := Aside0.mk (below_step (below_alloc HB2.out _) hb)
  clear hb HB2 ho
  go_wp2_with fail
  refine (seal_Get.calls k _ _ [0, 0, 0, 0] [] 0 _ (text_C [0, 0, 0, 0] (alloc_at _ _) rfl (by decide)) (by decide) h3.out).mono ?_
  rintro e w4 ⟨v4, rfl, ho, hb⟩
  have HB4 := Aside0.mk (below_step (below_alloc HB3.out _) hb)
  obtain ⟨A4, c4, rfl⟩ := Kd.R_slice ho
  clear hb HB3 ho
  go_wp2_with fail
  refine (seal_Get.calls k _ _ [0, 0, 0, 1] [] 9 _ (text_C [0, 0, 0, 1] (alloc_at _ _) rfl (by decide)) (by decide) h4.out).mono ?_
  rintro e w5 ⟨v5, rfl, ho, hb⟩
  have HB5 := Aside0.mk (below_step (below_alloc HB4.out _) hb)
  clear hb HB4 ho
  go_wp2_with fail
  refine (seal_Put.calls k _ _ nine (nine ++ [227, 6, 146, 131]) _ (text_C nine (alloc_at _ _) rfl (by decide)) (by decide) h5.out).mono ?_
  rintro e w6 ⟨v6, rfl, ho, hb⟩
  have HB6 := Aside0.mk (below_step (below_alloc HB5.out _) hb)
  obtain ⟨g, c6, rfl, _⟩ := Kd.R_form ho (by decide)
  have hC := (Kd.R_reads' ho).2.2
  have e9 : w6.cell? ⟨g, 9, none⟩ = some (.int .u8 227) := by
    obtain ⟨ad, he, hx⟩ := Kd.at_int hC 9 (by decide) (by decide)
    injection he with he; subst he; exact hx
  have e12 : w6.cell? ⟨g, 12, none⟩ = some (.int .u8 131) := by
    obtain ⟨ad, he, hx⟩ := Kd.at_int hC 12 (by decide) (by decide)
    injection he with he; subst he; exact hx
  clear hC ho hb HB5
  have HL : (nine ++ [227, 6, 146, 131]).length = 13 := rfl
  rw [HL]
  clear HL
  go_wp2_with fail
  refine (seal_Of.calls k none 0 [] 0 _ (Kd.C_nil _ _) (by decide) h6.out).mono ?_
  rintro e w7 ⟨rfl, ⟨nd, rfl⟩⟩
  go_wp2
  go_ret
  exact ⟨rfl, pw_below_drewN HB6.out _⟩

end Go.Proofs.Ytcmgioafkacgdaa.PA
