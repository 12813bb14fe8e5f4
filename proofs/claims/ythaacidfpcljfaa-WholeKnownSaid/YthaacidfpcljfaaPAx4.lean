-- by a program of this session, out of the translation
import Derived.Test.YthaacidfpcljfaaPAx0
import Derived.Test.YthaacidfpcljfaaPAx2
import Derived.Test.YthaacidfpcljfaaPAx3
namespace Go.Proofs.Ythaacidfpcljfaa.PA
open Go.RowKit Go.Proofs.YthaacidfpcljfaaW.PrintWords Go.Proofs.YthaacidfpcljfaaW.PrintLast Go.Proofs.YthaacidfpcljfaaW.PrintMore
attribute [local go_sem] max2_int min2_int max_two min_two max_three min_three max_four min_four   -- for this text's walks alone
set_option linter.unusedVariables false
set_option linter.unusedSimpArgs false

/-! ### whole_MulDiv: function 16 (by hand) -/
def mulDivEnd (neg : Bool) (q r : Int) : Int × Bool :=
  if neg = true ∧ (q > 0 ∨ r > 0) then
    (if r > 0 then (if IntKind.u64.wrap (q + 1) = 0 then (0, false) else if IntKind.u64.wrap (q + 1) > 9223372036854775808 then (0, false) else (wrap64 (IntKind.u64.wrap (-(IntKind.u64.wrap (q + 1)))), true))
    else (if q = 0 then (0, false) else if q > 9223372036854775808 then (0, false) else (wrap64 (IntKind.u64.wrap (-q)), true)))
  else if q > 9223372036854775807 then (0, false) else (wrap64 q, true)
def whole_MulDiv.f (k : Nat) (a0 : Int) (a1 : Int) (a2 : Int) : Option (Int × Bool) :=
  if a2 = 0 then (some (0, false)) else ((whole_size.f a0).bind fun t113 => ((whole_size.f a1).bind fun t114 => ((bits_Mul64.f t113 t114).bind fun bt115 => ((whole_size.f a2).bind fun t117 => (if bt115.1 ≥ t117 then (some (0, false)) else ((bits_Div64.f k bt115.1 bt115.2 t117).bind fun bt118 => some (mulDivEnd ((decide (a0 < 0) != decide (a1 < 0)) != decide (a2 < 0)) bt118.1 bt118.2)))))))
theorem whole_MulDiv.mono : ∀ a0 a1 a2 k, LeO (whole_MulDiv.f k a0 a1 a2) (whole_MulDiv.f (k + 1) a0 a1 a2) := by
  intro a0 a1 a2 k
  unfold whole_MulDiv.f
  repeat' first
      | (with_reducible exact bits_Div64.mono _ _ _ _)
      | (with_reducible exact LeO.refl _)
      | (with_reducible refine LeO.ite ?_ ?_)
      | (with_reducible refine LeO.bind ?_ (fun _ => ?_))
set_option maxHeartbeats 8000000 in
set_option maxRecDepth 100000 in
theorem whole_MulDiv.path (k : Nat) (a0 a1 a2 q r x y p1 p2 d r1 : Int) (r2 s1 s2 s3 z1 z2 z3 z4 z5 z6 z7 : Bool) (w : World) (h0 : (a2 == 0) = false) (h1 : decide (a0 < 0) = s1) (h2 : decide (a1 < 0) = s2) (h3 : decide (a2 < 0) = s3)
    (A1 : Aside0 (whole_size.f a0 = some x)) (A2 : Aside0 (whole_size.f a1 = some y)) (A3 : Aside0 (bits_Mul64.f x y = some (p1, p2))) (A4 : Aside0 (whole_size.f a2 = some d)) (A5 : decide (d ≤ p1) = false) (A6 : Aside0 (bits_Div64.f k p1 p2 d = some (q, r)))
    (c1 : decide (0 < q) = z1) (c2 : decide (0 < r) = z2) (c3 : (IntKind.u64.wrap (q + 1) == 0) = z3) (c4 : decide (9223372036854775808 < IntKind.u64.wrap (q + 1)) = z4) (c5 : (q == 0) = z5) (c6 : decide (9223372036854775808 < q) = z6) (c7 : decide (9223372036854775807 < q) = z7)
    (hr : Aside0 ((r1, r2) = if ((s1 != s2) != s3) = true then (if z2 = true then (if z3 = true then (0, false) else if z4 = true then (0, false) else (wrap64 (IntKind.u64.wrap (-(IntKind.u64.wrap (q + 1)))), true)) else if z1 = true then (if z5 = true then (0, false) else if z6 = true then (0, false) else (wrap64 (IntKind.u64.wrap (-q)), true)) else if z7 = true then (0, false) else (wrap64 q, true)) else if z7 = true then (0, false) else (wrap64 q, true))) :
    Calls Try.prog 16 #[.int .i64 a0, .int .i64 a1, .int .i64 a2] w fun e w' => e = .returned (.tuple #[.int .i64 r1, .bool r2]) ∧ Drawn0 w w' := by
  go_enter Try.func16, Try.ntmps16
  go_wp2_with fail
  refine (whole_size.calls a0 x _ A1.out).mono ?_; rintro e w' ⟨rfl, ⟨nd1, rfl⟩⟩
  go_wp2_with fail
  refine (whole_size.calls a1 y _ A2.out).mono ?_; rintro e w' ⟨rfl, ⟨nd2, rfl⟩⟩
  go_wp2_with fail
  refine (bits_Mul64.calls x y p1 p2 _ A3.out).mono ?_; rintro e w' ⟨rfl, ⟨nd4, rfl⟩⟩
  go_wp2_with fail
  refine (whole_size.calls a2 d _ A4.out).mono ?_; rintro e w' ⟨rfl, ⟨nd3, rfl⟩⟩
  go_wp2_with fail
  refine (bits_Div64.calls k p1 p2 d q r _ A6.out).mono ?_; rintro e w' ⟨rfl, ⟨nd5, rfl⟩⟩
  clear A1 A2 A3 A4 A6
  cases s1 <;> cases s2 <;> cases s3
  · cases z7
    all_goals
      go_wp2
      go_ret2
      refine ⟨?_, by repeat (first | exact Drawn0.refl _ | apply Drawn0.step)⟩
      have := hr.out
      simp at this
      simp [this]
  · cases z2
    · cases z1
      · cases z7
        all_goals
          go_wp2
          go_ret2
          refine ⟨?_, by repeat (first | exact Drawn0.refl _ | apply Drawn0.step)⟩
          have := hr.out
          simp at this
          simp [this]
      · cases z5
        · cases z6
          all_goals
            go_wp2
            go_ret2
            refine ⟨?_, by repeat (first | exact Drawn0.refl _ | apply Drawn0.step)⟩
            have := hr.out
            simp at this
            simp [this]
        · go_wp2
          go_ret2
          refine ⟨?_, by repeat (first | exact Drawn0.refl _ | apply Drawn0.step)⟩
          have := hr.out
          simp at this
          simp [this]
    · cases z3
      · cases z4 <;> cases z1
        all_goals
          go_wp2
          go_ret2
          refine ⟨?_, by repeat (first | exact Drawn0.refl _ | apply Drawn0.step)⟩
          have := hr.out
          simp at this
          simp [this]
      · cases z1
        all_goals
          go_wp2
          go_ret2
          refine ⟨?_, by repeat (first | exact Drawn0.refl _ | apply Drawn0.step)⟩
          have := hr.out
          simp at this
          simp [this]
  · cases z2
    · cases z1
      · cases z7
        all_goals
          go_wp2
          go_ret2
          refine ⟨?_, by repeat (first | exact Drawn0.refl _ | apply Drawn0.step)⟩
          have := hr.out
          simp at this
          simp [this]
      · cases z5
        · cases z6
          all_goals
            go_wp2
            go_ret2
            refine ⟨?_, by repeat (first | exact Drawn0.refl _ | apply Drawn0.step)⟩
            have := hr.out
            simp at this
            simp [this]
        · go_wp2
          go_ret2
          refine ⟨?_, by repeat (first | exact Drawn0.refl _ | apply Drawn0.step)⟩
          have := hr.out
          simp at this
          simp [this]
    · cases z3
      · cases z4 <;> cases z1
        all_goals
          go_wp2
          go_ret2
          refine ⟨?_, by repeat (first | exact Drawn0.refl _ | apply Drawn0.step)⟩
          have := hr.out
          simp at this
          simp [this]
      · cases z1
        all_goals
          go_wp2
          go_ret2
          refine ⟨?_, by repeat (first | exact Drawn0.refl _ | apply Drawn0.step)⟩
          have := hr.out
          simp at this
          simp [this]
  · cases z7
    all_goals
      go_wp2
      go_ret2
      refine ⟨?_, by repeat (first | exact Drawn0.refl _ | apply Drawn0.step)⟩
      have := hr.out
      simp at this
      simp [this]
  · cases z2
    · cases z1
      · cases z7
        all_goals
          go_wp2
          go_ret2
          refine ⟨?_, by repeat (first | exact Drawn0.refl _ | apply Drawn0.step)⟩
          have := hr.out
          simp at this
          simp [this]
      · cases z5
        · cases z6
          all_goals
            go_wp2
            go_ret2
            refine ⟨?_, by repeat (first | exact Drawn0.refl _ | apply Drawn0.step)⟩
            have := hr.out
            simp at this
            simp [this]
        · go_wp2
          go_ret2
          refine ⟨?_, by repeat (first | exact Drawn0.refl _ | apply Drawn0.step)⟩
          have := hr.out
          simp at this
          simp [this]
    · cases z3
      · cases z4 <;> cases z1
        all_goals
          go_wp2
          go_ret2
          refine ⟨?_, by repeat (first | exact Drawn0.refl _ | apply Drawn0.step)⟩
          have := hr.out
          simp at this
          simp [this]
      · cases z1
        all_goals
          go_wp2
          go_ret2
          refine ⟨?_, by repeat (first | exact Drawn0.refl _ | apply Drawn0.step)⟩
          have := hr.out
          simp at this
          simp [this]
  · cases z7
    all_goals
      go_wp2
      go_ret2
      refine ⟨?_, by repeat (first | exact Drawn0.refl _ | apply Drawn0.step)⟩
      have := hr.out
      simp at this
      simp [this]
  · cases z7
    all_goals
      go_wp2
      go_ret2
      refine ⟨?_, by repeat (first | exact Drawn0.refl _ | apply Drawn0.step)⟩
      have := hr.out
      simp at this
      simp [this]
  · cases z2
    · cases z1
      · cases z7
        all_goals
          go_wp2
          go_ret2
          refine ⟨?_, by repeat (first | exact Drawn0.refl _ | apply Drawn0.step)⟩
          have := hr.out
          simp at this
          simp [this]
      · cases z5
        · cases z6
          all_goals
            go_wp2
            go_ret2
            refine ⟨?_, by repeat (first | exact Drawn0.refl _ | apply Drawn0.step)⟩
            have := hr.out
            simp at this
            simp [this]
        · go_wp2
          go_ret2
          refine ⟨?_, by repeat (first | exact Drawn0.refl _ | apply Drawn0.step)⟩
          have := hr.out
          simp at this
          simp [this]
    · cases z3
      · cases z4 <;> cases z1
        all_goals
          go_wp2
          go_ret2
          refine ⟨?_, by repeat (first | exact Drawn0.refl _ | apply Drawn0.step)⟩
          have := hr.out
          simp at this
          simp [this]
      · cases z1
        all_goals
          go_wp2
          go_ret2
          refine ⟨?_, by repeat (first | exact Drawn0.refl _ | apply Drawn0.step)⟩
          have := hr.out
          simp at this
          simp [this]
theorem whole_MulDiv.calls (k : Nat) (a0 : Int) (a1 : Int) (a2 : Int) (r1 : Int) (r2 : Bool) (w : World) (h : whole_MulDiv.f k a0 a1 a2 = some (r1, r2)) :
    Calls Try.prog 16 #[.int .i64 a0, .int .i64 a1, .int .i64 a2] w fun e w' => e = .returned (.tuple #[.int .i64 r1, .bool r2]) ∧ Drawn0 w w' := by
  unfold whole_MulDiv.f at h
  by_cases c0 : a2 = 0
  · rw [if_pos c0] at h
    simp only [Option.some.injEq, Prod.mk.injEq] at h
    obtain ⟨rfl, rfl⟩ := h
    have h0 : (a2 == 0) = true := beq_iff_eq.mpr c0
    clear c0
    go_enter Try.func16, Try.ntmps16
    go_wp2
    go_ret2
    exact ⟨rfl, by repeat (first | exact Drawn0.refl _ | apply Drawn0.step)⟩
  · rw [if_neg c0] at h
    have h0 : (a2 == 0) = false := beq_eq_false_iff_ne.mpr c0
    clear c0
    obtain ⟨x, A1, h⟩ := Option.bind_eq_some_iff.mp h
    obtain ⟨y, A2, h⟩ := Option.bind_eq_some_iff.mp h
    obtain ⟨⟨p1, p2⟩, A3, h⟩ := Option.bind_eq_some_iff.mp h
    obtain ⟨d, A4, h⟩ := Option.bind_eq_some_iff.mp h
    by_cases c1 : p1 ≥ d
    · rw [if_pos c1] at h
      simp only [Option.some.injEq, Prod.mk.injEq] at h
      obtain ⟨rfl, rfl⟩ := h
      have A5 : decide (d ≤ p1) = true := decide_eq_true c1
      clear c1
      replace A1 := Aside0.mk A1
      replace A2 := Aside0.mk A2
      replace A3 := Aside0.mk A3
      replace A4 := Aside0.mk A4
      go_enter Try.func16, Try.ntmps16
      go_wp2_with fail
      refine (whole_size.calls a0 x _ A1.out).mono ?_; rintro e w' ⟨rfl, ⟨nd1, rfl⟩⟩
      go_wp2_with fail
      refine (whole_size.calls a1 y _ A2.out).mono ?_; rintro e w' ⟨rfl, ⟨nd2, rfl⟩⟩
      go_wp2_with fail
      refine (bits_Mul64.calls x y p1 p2 _ A3.out).mono ?_; rintro e w' ⟨rfl, ⟨nd4, rfl⟩⟩
      go_wp2_with fail
      refine (whole_size.calls a2 d _ A4.out).mono ?_; rintro e w' ⟨rfl, ⟨nd3, rfl⟩⟩
      go_wp2
      go_ret2
      exact ⟨rfl, by repeat (first | exact Drawn0.refl _ | apply Drawn0.step)⟩
    · rw [if_neg c1] at h
      obtain ⟨⟨q, r⟩, A6, h⟩ := Option.bind_eq_some_iff.mp h
      refine whole_MulDiv.path k a0 a1 a2 q r x y p1 p2 d r1 r2 _ _ _ _ _ _ _ _ _ _ w h0 rfl rfl rfl ⟨A1⟩ ⟨A2⟩ ⟨A3⟩ ⟨A4⟩ (decide_eq_false (by omega)) ⟨A6⟩ rfl rfl rfl rfl rfl rfl rfl ⟨?_⟩
      simp only [Option.some.injEq] at h
      rw [← h]
      unfold mulDivEnd
      have e1 : ∀ p : Prop, [Decidable p] → (decide p = true) = p := fun p _ => by simp
      simp only [decide_eq_true_eq, beq_iff_eq, gt_iff_lt]
      by_cases n : (((decide (a0 < 0)) != (decide (a1 < 0))) != (decide (a2 < 0))) = true
      · by_cases cr : 0 < r <;> by_cases cq : 0 < q <;> simp [n, cr, cq]
      · simp [n]

end Go.Proofs.Ythaacidfpcljfaa.PA
