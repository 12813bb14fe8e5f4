/- Contracts: groups: has, Up. No condition. -/
import Derived.Test.YtagjgigknnaphaaO0
import Derived.Test.YtagjgigknnaphaaSy8
namespace Go.Proofs.Ytagjgigknnaphaa.EV
open Go Go.Proofs
set_option linter.unusedVariables false
set_option linter.unusedSimpArgs false
set_option maxRecDepth 100000
set_option pp.deepTerms false
set_option pp.deepTerms.threshold 20
abbrev Gp := Bool × Int
noncomputable def gE (x : Gp) : List Value := [.bool x.1, .int .i64 x.2]
theorem gE_len (x : Gp) : (gE x).length = 2 := rfl
noncomputable def gat (gl : List Gp) (id : Int) : Gp := gl.getD id.toNat (false, 0)
noncomputable def hasB (gl : List Gp) (id : Int) : Bool := decide (0 ≤ id) && (decide (id < 16) && (gat gl id).1)
noncomputable def GR (h : Heap) (B : Nat) (gl : List Gp) : Prop := h.get B = .cells (gl.flatMap gE) 0 ∧ gl.length = 16 ∧ B < h.next
theorem GR.ext {h h' : Heap} {B : Nat} {gl : List Gp} (g : GR h B gl) (x : Ext h h') : GR h' B gl := ⟨by rw [x.old _ g.2.2]; exact g.1, g.2.1, Nat.lt_of_lt_of_le g.2.2 x.le⟩
theorem gE_at : ∀ (gl : List Gp) (i : Nat), i < gl.length → (gl.flatMap gE)[i * 2]? = some (.bool (gl.getD i (false, 0)).1) ∧ (gl.flatMap gE)[i * 2 + 1]? = some (.int .i64 (gl.getD i (false, 0)).2)
  | [], _, h => by simp at h
  | x :: gl, 0, _ => ⟨rfl, rfl⟩
  | x :: gl, i + 1, h => by
    have ih := gE_at gl i (by simpa using h)
    have e1 : (i + 1) * 2 = i * 2 + 1 + 1 := by omega
    rw [List.flatMap_cons, e1, List.getD_cons_succ]
    exact ih
theorem GR.rd {h : Heap} {B : Nat} {gl : List Gp} (g : GR h B gl) {id : Int} (h0 : 0 ≤ id) (h1 : id < 16) : rdc1 (h.get B) (id.toNat * 2) = some (.bool (gat gl id).1) ∧ rdc1 (h.get B) (id.toNat * 2 + 1) = some (.int .i64 (gat gl id).2) := by
  rw [g.1, rdc1_c, rdc1_c]
  exact gE_at gl id.toNat (by rw [g.2.1]; omega)
theorem has_ev (gl : List Gp) (B : Nat) (id : Int) (h : Heap) (g : GR h B gl) : EF Try.prog O0 22 [ptr B 0, .int .i64 id] h = some (.bool (hasB gl id), h) := by
  have : WPo (EF Try.prog O0 22 [ptr B 0, .int .i64 id] h) fun q => q = (.bool (hasB gl id), h) := by
    unfold hasB
    rw [EF_body (O := O0) (by kernel_rfl) Try.func22 rfl (rs := [.tmp 4]) rfl (bad := []) (by kernel_rfl) _ _ (m := 20) rfl]
    by_cases q0 : 0 ≤ id
    · have d0 : decide (0 ≤ id) = true := decide_eq_true q0
      by_cases q1 : id < 16
      · have d1 : decide (id < 16) = true := decide_eq_true q1
        obtain ⟨r1, r2⟩ := g.rd q0 q1
        simp (maxSteps := 1000000) (disch := first | decide | omega | (simp only [go_sem]; first | done | omega)) only [go_sem, Int.reduceToNat, Nat.reduceMul, Nat.reduceAdd, Nat.reduceSub, ↓EU_region, ↓EU_draw, d0, d1, r1, r2]
      · have d1 : decide (id < 16) = false := decide_eq_false q1
        simp (maxSteps := 1000000) (disch := first | decide | omega | (simp only [go_sem]; first | done | omega)) only [go_sem, Int.reduceToNat, Nat.reduceMul, Nat.reduceAdd, Nat.reduceSub, ↓EU_region, ↓EU_draw, d0, d1]
    · have d0 : decide (0 ≤ id) = false := decide_eq_false q0
      simp (maxSteps := 1000000) (disch := first | decide | omega | (simp only [go_sem]; first | done | omega)) only [go_sem, Int.reduceToNat, Nat.reduceMul, Nat.reduceAdd, Nat.reduceSub, ↓EU_region, ↓EU_draw, d0]
  obtain ⟨q, e, rfl⟩ := this
  exact e
theorem gup_ev (gl : List Gp) (B : Nat) (id : Int) (h : Heap) (g : GR h B gl) : EF Try.prog O0 14 [ptr B 0, .int .i64 id] h = some (.tuple ⟨[.int .i64 (if hasB gl id && !decide (id = 0) then (gat gl id).2 else 0), .bool (hasB gl id && !decide (id = 0))]⟩, h) := by
  have : WPo (EF Try.prog O0 14 [ptr B 0, .int .i64 id] h) fun q => q = (.tuple ⟨[.int .i64 (if hasB gl id && !decide (id = 0) then (gat gl id).2 else 0), .bool (hasB gl id && !decide (id = 0))]⟩, h) := by
    have hh := has_ev gl B id h g
    rw [EF_body (O := O0) (by kernel_rfl) Try.func14 rfl (rs := [.tmp 4, .tmp 5]) rfl (bad := []) (by kernel_rfl) _ _ (m := 21) rfl]
    by_cases q : id = 0
    · have d : decide (id = 0) = true := decide_eq_true q
      have e : (hasB gl id && !decide (id = 0)) = false := by rw [d]; simp
      rw [e]
      simp (maxSteps := 1000000) (disch := first | decide | omega | (simp only [go_sem]; first | done | omega)) only [go_sem, Int.reduceToNat, Nat.reduceMul, Nat.reduceAdd, Nat.reduceSub, ↓EU_region, ↓EU_draw, dec_t, dec_f, d]
      rfl
    · have d : decide (id = 0) = false := decide_eq_false q
      cases hb : hasB gl id with
      | false =>
        rw [hb] at hh
        simp (maxSteps := 1000000) (disch := first | decide | omega | (simp only [go_sem]; first | done | omega)) only [go_sem, Int.reduceToNat, Nat.reduceMul, Nat.reduceAdd, Nat.reduceSub, ↓EU_region, ↓EU_draw, dec_t, dec_f, d, hh]
        rfl
      | true =>
        rw [hb] at hh
        have hb' := hb
        unfold hasB at hb'
        simp only [Bool.and_eq_true, decide_eq_true_eq] at hb'
        obtain ⟨r1, r2⟩ := g.rd hb'.1 hb'.2.1
        have d0 : decide (0 ≤ id) = true := decide_eq_true hb'.1
        have d1 : decide (id < 16) = true := decide_eq_true hb'.2.1
        simp (maxSteps := 1000000) (disch := first | decide | omega | (simp only [go_sem]; first | done | omega)) only [go_sem, Int.reduceToNat, Nat.reduceMul, Nat.reduceAdd, Nat.reduceSub, ↓EU_region, ↓EU_draw, dec_t, dec_f, d, hh, d0, d1, r2]
        simp only [if_true]
  obtain ⟨q, e, rfl⟩ := this
  exact e
end Go.Proofs.Ytagjgigknnaphaa.EV
