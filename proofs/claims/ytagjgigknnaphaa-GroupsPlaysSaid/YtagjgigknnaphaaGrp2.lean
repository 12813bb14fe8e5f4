/- Contracts: groups: the ways up. No condition. -/
import Derived.Test.YtagjgigknnaphaaGrp1
namespace Go.Proofs.Ytagjgigknnaphaa.EV
open Go Go.Proofs
set_option linter.unusedVariables false
set_option linter.unusedSimpArgs false
set_option maxRecDepth 100000
set_option pp.deepTerms false
set_option pp.deepTerms.threshold 20
/-- the way up -/
inductive PA (gl : List Gp) : Int → List Int → Prop
  | stop {id : Int} (h : hasB gl id = false) : PA gl id []
  | go {id : Int} {l : List Int} (h : hasB gl id = true) (r : PA gl (gat gl id).2 l) : PA gl id (id :: l)
theorem path_ev (B : Nat) (id : Int) (h : Heap) : WPo (EF Try.prog O0 24 [ptr B 0, .int .i64 id] h) fun q => q = (.func (.func 27) ⟨[]⟩ ⟨[ptr (h.next + 1) 0, ptr h.next 0]⟩, (h.push (.cells [ptr B 0] 0)).push (.cells [.int .i64 id] 0)) := by
  rw [EF_body (O := O0) (by kernel_rfl) Try.func24 rfl (rs := [.tmp 4]) rfl (bad := []) (by kernel_rfl) _ _ (m := 6) rfl]
  simp (maxSteps := 1000000) (disch := first | decide | omega | (simp only [go_sem]; first | done | omega)) only [go_sem, Int.reduceToNat, Nat.reduceMul, Nat.reduceAdd, Nat.reduceSub, ↓EU_region, ↓EU_draw]
set_option maxHeartbeats 2000000 in
theorem walk_ev (gl : List Gp) (B ib gb : Nat) (id : Int) (l : List Int) (hp : PA gl id l) (hl : l.length ≤ 900000) (yv : Value) (I : Nat → Heap → Prop) (D : Heap → Prop) (h0 : Heap)
    (hI : ∀ i h, I i h → GR h B gl ∧ h.get gb = .cells [ptr B 0] 0) (hi : h0.get ib = .cells [.int .i64 id] 0) (h00 : I 0 h0)
    (hy : ∀ i x h, l[i]? = some x → I i h → WPo (CALLV Try.prog O0 h [.int .i64 x] yv) fun q => (q.1 = .bool true ∧ I (i + 1) q.2) ∨ (q.1 = .bool false ∧ D q.2)) :
    WPo (EF Try.prog O0 27 [yv, ptr ib 0, ptr gb 0] h0) fun q => I l.length q.2 ∨ D q.2 := by
  rw [EF_body (O := O0) (by kernel_rfl) Try.func27 rfl (rs := []) rfl (bad := []) (by kernel_rfl) _ _ (m := 20) rfl]
  simp (maxSteps := 1000000) (disch := first | decide | omega | (simp only [go_sem]; first | done | omega)) only [go_sem, Int.reduceToNat, Nat.reduceMul, Nat.reduceAdd, Nat.reduceSub, ↓EU_region, ↓EU_draw, hi]
  repeat refine WPo_ob ?_
  refine (LP_rule (fun m st => ∃ (i : Nat) (tm : Fr) (h' : Heap) (at' : Int), st = ⟨tm, h', []⟩ ∧ m = l.length - i ∧ i ≤ l.length ∧ Fr.get tm 0 = yv ∧ Fr.get tm 2 = ptr gb 0 ∧ Fr.get tm 4 = .int .i64 at' ∧ PA gl at' (l.drop i) ∧ I i h')
    (fun q => ∃ tm h', q.2 = ⟨tm, h', []⟩ ∧ ((q.1 = .exit 0 ∧ I l.length h') ∨ (q.1 = .ret ∧ D h'))) ?_ l.length _ _ ?_ ?_).mono ?_
  · rintro m _ ⟨i, tm, h', at', rfl, rfl, hil, g0, g2, g4, pa, ii⟩
    obtain ⟨gr, hg⟩ := hI i h' ii
    have hh := has_ev gl B at' h' gr
    generalize hr : l.drop i = r at pa
    cases pa with
    | stop hb =>
      rw [hb] at hh
      have : i = l.length := by
        have := congrArg List.length hr
        rw [List.length_drop] at this
        simp at this; omega
      subst this
      simp (maxSteps := 1000000) (disch := first | decide | omega | (simp only [go_sem]; first | done | omega)) only [go_sem, Int.reduceToNat, Nat.reduceMul, Nat.reduceAdd, Nat.reduceSub, ↓EU_region, ↓EU_draw, g0, g2, g4, hg, hh]
      exact ⟨_, h', rfl, .inl ⟨trivial, ii⟩⟩
    | go hb r' =>
      rename_i l'
      rw [hb] at hh
      have hx : l[i]? = some at' := by
        have := congrArg (fun z => z[0]?) hr
        simpa using this
      have hil' := (List.getElem?_eq_some_iff.1 hx).1
      have hdr : l.drop (i + 1) = l' := by
        have := congrArg (fun z => z.drop 1) hr
        simpa [List.drop_drop] using this
      simp (maxSteps := 1000000) (disch := first | decide | omega | (simp only [go_sem]; first | done | omega)) only [go_sem, Int.reduceToNat, Nat.reduceMul, Nat.reduceAdd, Nat.reduceSub, ↓EU_region, ↓EU_draw, g0, g2, g4, hg, hh]
      repeat refine WPo_ob ?_
      refine (hy i at' h' hx ii).mono ?_
      rintro ⟨v, h1⟩ (⟨e, r⟩ | ⟨e, r⟩)
      · simp only at e r
        subst e
        obtain ⟨gr1, hg1⟩ := hI (i + 1) h1 r
        have hb' := hb
        unfold hasB at hb'
        simp only [Bool.and_eq_true, decide_eq_true_eq] at hb'
        obtain ⟨r1, r2⟩ := gr1.rd hb'.1 hb'.2.1
        have d0 : decide (0 ≤ at') = true := decide_eq_true hb'.1
        have d1 : decide (at' < 16) = true := decide_eq_true hb'.2.1
        simp (maxSteps := 1000000) (disch := first | decide | omega | (simp only [go_sem]; first | done | omega)) only [go_sem, Int.reduceToNat, Nat.reduceMul, Nat.reduceAdd, Nat.reduceSub, ↓EU_region, ↓EU_draw, g0, g2, g4, hg1, r2, d0, d1]
        exact ⟨l.length - (i + 1), by omega, i + 1, _, h1, _, rfl, rfl, by omega, by simp (maxSteps := 1000000) (disch := first | decide | omega | (simp only [go_sem]; first | done | omega)) only [go_sem, Int.reduceToNat, Nat.reduceMul, Nat.reduceAdd, Nat.reduceSub, ↓EU_region, ↓EU_draw, g0], by simp (maxSteps := 1000000) (disch := first | decide | omega | (simp only [go_sem]; first | done | omega)) only [go_sem, Int.reduceToNat, Nat.reduceMul, Nat.reduceAdd, Nat.reduceSub, ↓EU_region, ↓EU_draw, g2], by simp (maxSteps := 1000000) (disch := first | decide | omega | (simp only [go_sem]; first | done | omega)) only [go_sem, Int.reduceToNat, Nat.reduceMul, Nat.reduceAdd, Nat.reduceSub, ↓EU_region, ↓EU_draw]; rfl, by rw [hdr]; exact r', r⟩
      · simp only at e r
        subst e
        simp (maxSteps := 1000000) (disch := first | decide | omega | (simp only [go_sem]; first | done | omega)) only [go_sem, Int.reduceToNat, Nat.reduceMul, Nat.reduceAdd, Nat.reduceSub, ↓EU_region, ↓EU_draw, g0, g2, g4]
        exact ⟨_, h1, rfl, .inr ⟨trivial, r⟩⟩
  · exact ⟨0, _, h0, id, rfl, rfl, by omega, by simp (maxSteps := 1000000) (disch := first | decide | omega | (simp only [go_sem]; first | done | omega)) only [go_sem, Int.reduceToNat, Nat.reduceMul, Nat.reduceAdd, Nat.reduceSub, ↓EU_region, ↓EU_draw], by simp (maxSteps := 1000000) (disch := first | decide | omega | (simp only [go_sem]; first | done | omega)) only [go_sem, Int.reduceToNat, Nat.reduceMul, Nat.reduceAdd, Nat.reduceSub, ↓EU_region, ↓EU_draw], by simp (maxSteps := 1000000) (disch := first | decide | omega | (simp only [go_sem]; first | done | omega)) only [go_sem, Int.reduceToNat, Nat.reduceMul, Nat.reduceAdd, Nat.reduceSub, ↓EU_region, ↓EU_draw], by rw [List.drop_zero]; exact hp, h00⟩
  · omega
  · rintro ⟨_, _⟩ ⟨tm, h', rfl, ⟨rfl, r⟩ | ⟨rfl, r⟩⟩
    · simp (maxSteps := 1000000) (disch := first | decide | omega | (simp only [go_sem]; first | done | omega)) only [go_sem, Int.reduceToNat, Nat.reduceMul, Nat.reduceAdd, Nat.reduceSub, ↓EU_region, ↓EU_draw]
      exact .inl r
    · simp (maxSteps := 1000000) (disch := first | decide | omega | (simp only [go_sem]; first | done | omega)) only [go_sem, Int.reduceToNat, Nat.reduceMul, Nat.reduceAdd, Nat.reduceSub, ↓EU_region, ↓EU_draw]
      exact .inr r
end Go.Proofs.Ytagjgigknnaphaa.EV
