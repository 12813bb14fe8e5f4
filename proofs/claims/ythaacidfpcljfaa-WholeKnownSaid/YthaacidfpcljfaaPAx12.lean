-- by a program of this session, out of the translation
import Derived.Test.YthaacidfpcljfaaPAx0
import Derived.Test.YthaacidfpcljfaaPAx2
import Derived.Test.YthaacidfpcljfaaPAx4
import Derived.Test.YthaacidfpcljfaaPAx5
import Derived.Test.YthaacidfpcljfaaPAx6
import Derived.Test.YthaacidfpcljfaaPAx7
namespace Go.Proofs.Ythaacidfpcljfaa.PA
open Go.RowKit Go.Proofs.YthaacidfpcljfaaW.PrintWords Go.Proofs.YthaacidfpcljfaaW.PrintLast Go.Proofs.YthaacidfpcljfaaW.PrintMore
attribute [local go_sem] max2_int min2_int max_two min_two max_three min_three max_four min_four   -- for this text's walks alone
set_option linter.unusedVariables false
set_option linter.unusedSimpArgs false

/-! ### stadholderlaw1_WholeKnown: function 9 (by hand) -/
def stadholderlaw1_WholeKnown.f (k : Nat) : Option Bool :=
  if stadholderlaw1_awake.f k = some (true) ∧ whole_Add.f (9223372036854775807) (1) = some (0, false) ∧ whole_Sub.f (-9223372036854775808) (1) = some (0, false) ∧ whole_Mul.f (-9223372036854775808) (-1) = some (0, false) ∧ whole_MulDiv.f k (-9223372036854775808) (1) (-1) = some (0, false) ∧ whole_MulDiv.f k (5) (5) (0) = some (0, false) ∧ whole_MulDiv.f k (9223372036854775807) (9223372036854775807) (9223372036854775807) = some (9223372036854775807, true) ∧ whole_MulDiv.f k (-9223372036854775808) (-9223372036854775808) (-9223372036854775808) = some (-9223372036854775808, true) ∧ whole_Sum.f k ([9223372036854775807, 1, -1] : List Int) = some (9223372036854775807, true) ∧ whole_Sum.f k ([9223372036854775807, 1] : List Int) = some (0, false) ∧ whole_Sum.f k ([] : List Int) = some (0, true) ∧ whole_Wide.f (-9223372036854775808) (-9223372036854775808) = some (4611686018427387904, 0) ∧ whole_Wide.f (-1) (1) = some (-1, 18446744073709551615) ∧ whole_Sub.f (0) (-9223372036854775808) = some (0, false) ∧ whole_Held.f k (5) (1) (3) = some (3) ∧ whole_Held.f k (0) (1) (3) = some (1) ∧ whole_Held.f k (2) (3) (1) = some (3) ∧ whole_CmpMul.f (9223372036854775807) (9223372036854775807) (-9223372036854775808) (-9223372036854775808) = some (-1) ∧ whole_CmpMul.f (-9223372036854775808) (-9223372036854775808) (9223372036854775807) (9223372036854775807) = some (1) ∧ whole_CmpMul.f (-9223372036854775808) (3) (-9223372036854775808) (3) = some (0) then some true else none
def stadholderlaw1_WholeKnown.Pure : Prop := ∃ k, stadholderlaw1_WholeKnown.f k = some true
set_option maxHeartbeats 8000000 in
set_option maxRecDepth 100000 in
theorem stadholderlaw1_WholeKnown.walk (P : stadholderlaw1_WholeKnown.Pure) (w : World) :
    Calls Try.prog 9 #[] w fun e w' => e = .returned (.bool true) ∧ Below w.heap.size w w' := by
  obtain ⟨k, h⟩ := P
  unfold stadholderlaw1_WholeKnown.f at h
  split at h
  case isFalse => cases h
  rename_i hh
  clear h
  obtain ⟨h1, h2, h3, h4, h5, h6, h7, h8, h9, h10, h11, h12, h13, h14, h15, h16, h17, h18, h19, h20⟩ := hh
  replace h1 := Aside0.mk h1
  replace h2 := Aside0.mk h2
  replace h3 := Aside0.mk h3
  replace h4 := Aside0.mk h4
  replace h5 := Aside0.mk h5
  replace h6 := Aside0.mk h6
  replace h7 := Aside0.mk h7
  replace h8 := Aside0.mk h8
  replace h9 := Aside0.mk h9
  replace h10 := Aside0.mk h10
  replace h11 := Aside0.mk h11
  replace h12 := Aside0.mk h12
  replace h13 := Aside0.mk h13
  replace h14 := Aside0.mk h14
  replace h15 := Aside0.mk h15
  replace h16 := Aside0.mk h16
  replace h17 := Aside0.mk h17
  replace h18 := Aside0.mk h18
  replace h19 := Aside0.mk h19
  replace h20 := Aside0.mk h20
  have HB := Aside0.mk (Below.refl w.heap.size w)
  go_enter Try.func9, Try.ntmps9
  go_wp2_with fail
  refine (stadholderlaw1_awake.calls k (true) _  h1.out).mono ?_
  rintro e w1 ⟨rfl, hb⟩
  have HB0 := Aside0.mk (below_step (by repeat (first | (with_reducible exact HB.out) | apply below_alloc | apply pw_below_drewN | apply below_drew1 | exact HB.out)) hb)
  clear hb HB
  have HB := HB0
  clear HB0
  go_wp2_with fail
  refine (whole_Add.calls (9223372036854775807) (1) (0) (false) _  h2.out).mono ?_
  rintro e w2 ⟨rfl, hb⟩
  have HB0 := Aside0.mk (below_step (by repeat (first | (with_reducible exact HB.out) | apply below_alloc | apply pw_below_drewN | apply below_drew1 | exact HB.out)) hb)
  clear hb HB
  have HB := HB0
  clear HB0
  go_wp2_with fail
  refine (whole_Sub.calls (-9223372036854775808) (1) (0) (false) _  h3.out).mono ?_
  rintro e w3 ⟨rfl, hb⟩
  have HB0 := Aside0.mk (below_step (by repeat (first | (with_reducible exact HB.out) | apply below_alloc | apply pw_below_drewN | apply below_drew1 | exact HB.out)) hb)
  clear hb HB
  have HB := HB0
  clear HB0
  go_wp2_with fail
  refine (whole_Mul.calls (-9223372036854775808) (-1) (0) (false) _  h4.out).mono ?_
  rintro e w4 ⟨rfl, hb⟩
  have HB0 := Aside0.mk (below_step (by repeat (first | (with_reducible exact HB.out) | apply below_alloc | apply pw_below_drewN | apply below_drew1 | exact HB.out)) hb)
  clear hb HB
  have HB := HB0
  clear HB0
  go_wp2_with fail
  refine (whole_MulDiv.calls k (-9223372036854775808) (1) (-1) (0) (false) _  h5.out).mono ?_
  rintro e w5 ⟨rfl, ⟨nd5, rfl⟩⟩
  go_wp2_with fail
  refine (whole_MulDiv.calls k (5) (5) (0) (0) (false) _  h6.out).mono ?_
  rintro e w6 ⟨rfl, ⟨nd6, rfl⟩⟩
  go_wp2_with fail
  refine (whole_MulDiv.calls k (9223372036854775807) (9223372036854775807) (9223372036854775807) (9223372036854775807) (true) _  h7.out).mono ?_
  rintro e w7 ⟨rfl, ⟨nd7, rfl⟩⟩
  go_wp2_with fail
  refine (whole_MulDiv.calls k (-9223372036854775808) (-9223372036854775808) (-9223372036854775808) (-9223372036854775808) (true) _  h8.out).mono ?_
  rintro e w8 ⟨rfl, ⟨nd8, rfl⟩⟩
  go_wp2_with fail
  refine (whole_Sum.calls k _ _ ([9223372036854775807, 1, -1] : List Int) (9223372036854775807) (true) _ (text_C [9223372036854775807, 1, -1] (alloc_at _ _) rfl (by decide)) (by decide) h9.out).mono ?_
  rintro e w9 ⟨rfl, hb⟩
  have HB0 := Aside0.mk (below_step (by repeat (first | (with_reducible exact HB.out) | apply below_alloc | apply pw_below_drewN | apply below_drew1 | exact HB.out)) hb)
  clear hb HB
  have HB := HB0
  clear HB0
  go_wp2_with fail
  refine (whole_Sum.calls k _ _ ([9223372036854775807, 1] : List Int) (0) (false) _ (text_C [9223372036854775807, 1] (alloc_at _ _) rfl (by decide)) (by decide) h10.out).mono ?_
  rintro e w10 ⟨rfl, hb⟩
  have HB0 := Aside0.mk (below_step (by repeat (first | (with_reducible exact HB.out) | apply below_alloc | apply pw_below_drewN | apply below_drew1 | exact HB.out)) hb)
  clear hb HB
  have HB := HB0
  clear HB0
  go_wp2_with fail
  refine (whole_Sum.calls k none 0 ([] : List Int) (0) (true) _ (Kd.C_nil _ _) (by decide) h11.out).mono ?_
  rintro e w11 ⟨rfl, hb⟩
  have HB0 := Aside0.mk (below_step (by repeat (first | (with_reducible exact HB.out) | apply below_alloc | apply pw_below_drewN | apply below_drew1 | exact HB.out)) hb)
  clear hb HB
  have HB := HB0
  clear HB0
  go_wp2_with fail
  refine (whole_Wide.calls (-9223372036854775808) (-9223372036854775808) (4611686018427387904) (0) _  h12.out).mono ?_
  rintro e w12 ⟨rfl, hb⟩
  have HB0 := Aside0.mk (below_step (by repeat (first | (with_reducible exact HB.out) | apply below_alloc | apply pw_below_drewN | apply below_drew1 | exact HB.out)) hb)
  clear hb HB
  have HB := HB0
  clear HB0
  go_wp2_with fail
  refine (whole_Wide.calls (-1) (1) (-1) (18446744073709551615) _  h13.out).mono ?_
  rintro e w13 ⟨rfl, hb⟩
  have HB0 := Aside0.mk (below_step (by repeat (first | (with_reducible exact HB.out) | apply below_alloc | apply pw_below_drewN | apply below_drew1 | exact HB.out)) hb)
  clear hb HB
  have HB := HB0
  clear HB0
  go_wp2_with fail
  refine (whole_Sub.calls (0) (-9223372036854775808) (0) (false) _  h14.out).mono ?_
  rintro e w14 ⟨rfl, hb⟩
  have HB0 := Aside0.mk (below_step (by repeat (first | (with_reducible exact HB.out) | apply below_alloc | apply pw_below_drewN | apply below_drew1 | exact HB.out)) hb)
  clear hb HB
  have HB := HB0
  clear HB0
  go_wp2_with fail
  refine (whole_Held.calls k (5) (1) (3) (3) _  h15.out).mono ?_
  rintro e w15 ⟨rfl, ⟨nd15, rfl⟩⟩
  go_wp2_with fail
  refine (whole_Held.calls k (0) (1) (3) (1) _  h16.out).mono ?_
  rintro e w16 ⟨rfl, ⟨nd16, rfl⟩⟩
  go_wp2_with fail
  refine (whole_Held.calls k (2) (3) (1) (3) _  h17.out).mono ?_
  rintro e w17 ⟨rfl, ⟨nd17, rfl⟩⟩
  go_wp2_with fail
  refine (whole_CmpMul.calls (9223372036854775807) (9223372036854775807) (-9223372036854775808) (-9223372036854775808) (-1) _  h18.out).mono ?_
  rintro e w18 ⟨rfl, hb⟩
  have HB0 := Aside0.mk (below_step (by repeat (first | (with_reducible exact HB.out) | apply below_alloc | apply pw_below_drewN | apply below_drew1 | exact HB.out)) hb)
  clear hb HB
  have HB := HB0
  clear HB0
  go_wp2_with fail
  refine (whole_CmpMul.calls (-9223372036854775808) (-9223372036854775808) (9223372036854775807) (9223372036854775807) (1) _  h19.out).mono ?_
  rintro e w19 ⟨rfl, hb⟩
  have HB0 := Aside0.mk (below_step (by repeat (first | (with_reducible exact HB.out) | apply below_alloc | apply pw_below_drewN | apply below_drew1 | exact HB.out)) hb)
  clear hb HB
  have HB := HB0
  clear HB0
  go_wp2_with fail
  refine (whole_CmpMul.calls (-9223372036854775808) (3) (-9223372036854775808) (3) (0) _  h20.out).mono ?_
  rintro e w20 ⟨rfl, hb⟩
  have HB0 := Aside0.mk (below_step (by repeat (first | (with_reducible exact HB.out) | apply below_alloc | apply pw_below_drewN | apply below_drew1 | exact HB.out)) hb)
  clear hb HB
  have HB := HB0
  clear HB0
  go_wp2
  go_ret
  exact ⟨rfl, by repeat (first | (with_reducible exact HB.out) | apply below_alloc | apply pw_below_drewN | apply below_drew1 | exact HB.out)⟩

end Go.Proofs.Ythaacidfpcljfaa.PA
