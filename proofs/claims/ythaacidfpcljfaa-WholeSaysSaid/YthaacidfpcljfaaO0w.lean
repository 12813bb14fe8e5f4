/- What is told beside: wide numbers added (the model stands in for bits.Add64). No condition. -/
import Derived.Test.YthaacidfpcljfaaSy7
import Derived.Test.YthaacidfpcljfaaFc
import Derived.Test.YthaacidfpcljfaaWadd
namespace Go.Proofs.Ythaacidfpcljfaa.EV
open Go Go.Proofs
noncomputable def addT (args : List Value) (h : Heap) : VH := match args with
  | [.agg ⟨[.int .i64 a, .int .u64 b]⟩, .agg ⟨[.int .i64 c, .int .u64 d]⟩] => if 0 ≤ b ∧ b < 18446744073709551616 ∧ 0 ≤ d ∧ d < 18446744073709551616 then some (.agg ⟨[.int .i64 (wrapF .i64 (a + c + (b + d) / 18446744073709551616)), .int .u64 ((b + d) % 18446744073709551616)]⟩, h) else none
  | _ => none
noncomputable def O0 : Orc := fun f => if f = 27 then some addT else none
theorem pair_flat (a b : Int) {i : Nat} {x : Value} (h : [Value.int .i64 a, Value.int .u64 b][i]? = some x) : flat1 x = true := by
  match i, h with
  | 0, h => cases h; rfl
  | 1, h => cases h; rfl
theorem addT_sound {args : List Value} {h : Heap} {v : Value} {h' : Heap} (hg : addT args h = some (v, h')) : SF1 Try.prog 27 args h v h' := by
  unfold addT at hg
  split at hg
  · rename_i a b c d
    split at hg
    · rename_i hr
      cases hg
      refine ⟨⟨_, _, Try.func27, rfl⟩, fun M w0 w args' n H hl => ?_⟩
      have ha : args' = #[.agg #[.int .i64 a, .int .u64 b], .agg #[.int .i64 c, .int .u64 d]] := by
        obtain ⟨y1, r1, e1, k1, l1⟩ := hl.cons_inv
        obtain ⟨y2, r2, e2, k2, l2⟩ := l1.cons_inv
        have e3 := l2.nil_inv
        rw [k1.flat_eq rfl] at e1
        rw [k2.flat_eq rfl] at e2
        subst e3
        subst e2
        cases args'
        simp only at e1
        subst e1
        rfl
      subst ha
      have hc := WA.wide_add_calls a b c d _ _ w hr rfl rfl
      refine CallsIn.mono (callsIn_wide.2 hc) ?_
      rintro e' w' ⟨rfl, hB⟩
      refine ⟨[], _, rfl, ?_, ?_⟩
      · rw [List.append_nil]
        exact H.quiet ⟨hB.os, hB.tape, hB.output, hB.size, hB.block⟩
      · rw [wrapF_eq]
        refine .agg _ _ rfl fun i x y hx hy => ?_
        have e : x = y := Option.some.inj (hx.symm.trans hy)
        subst e
        exact VR.of_flat1 _ (pair_flat _ _ hx)
    · cases hg
  · cases hg
theorem O0_sound : SO Try.prog O0 := fun f g h args h0 v h' e => by
  unfold O0 at h
  split at h
  · rename_i q
    subst q
    cases h
    exact addT_sound e
  · cases h
theorem wadd_ev (a b c d : Int) (h : Heap) (hr : 0 ≤ b ∧ b < 18446744073709551616 ∧ 0 ≤ d ∧ d < 18446744073709551616) : EF Try.prog O0 27 [.agg ⟨[.int .i64 a, .int .u64 b]⟩, .agg ⟨[.int .i64 c, .int .u64 d]⟩] h = some (.agg ⟨[.int .i64 (wrapF .i64 (a + c + (b + d) / 18446744073709551616)), .int .u64 ((b + d) % 18446744073709551616)]⟩, h) := by
  rw [EF_eq]
  unfold stepO
  have : O0 27 = some addT := by kernel_rfl
  rw [this]
  show (if 0 ≤ b ∧ b < 18446744073709551616 ∧ 0 ≤ d ∧ d < 18446744073709551616 then _ else none) = _
  rw [if_pos hr]
end Go.Proofs.Ythaacidfpcljfaa.EV
