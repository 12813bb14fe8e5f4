/- Contracts: groups: Depth, Under, Chain. No condition. -/
import Derived.Test.YtagjgigknnaphaaGrp2
namespace Go.Proofs.Ytagjgigknnaphaa.EV
open Go Go.Proofs
set_option linter.unusedVariables false
set_option linter.unusedSimpArgs false
set_option maxRecDepth 100000
set_option pp.deepTerms false
set_option pp.deepTerms.threshold 20
noncomputable def stR (p : Option Code) : LoopState := match p with
  | none => .ready
  | some _ => .done
theorem stR_b (p : Option Code) : isBusy (stR p) = false := by cases p <;> rfl
theorem setP1 (n : Nat) (t : Tmp) (v : Value) (tm : Fr) : setParams n ([t].zip [v]) tm = Fr.put n tm t v := rfl
theorem Mod.old' {S : Nat → Prop} {a b : Heap} (m : Mod S a b) {i : Nat} (hi : i < a.next) (hs : ¬ S i) : b.get i = a.get i := m.old i hi hs
set_option maxHeartbeats 2000000 in
theorem depth_ev (gl : List Gp) (B : Nat) (id : Int) (l : List Int) (hp : PA gl id l) (hl : l.length ≤ 1000) (h : Heap) (g : GR h B gl) :
    Pu (EF Try.prog O0 13 [ptr B 0, .int .i64 id] h) h (.int .i64 l.length) := by
  unfold Pu
  rw [EF_body (O := O0) (by kernel_rfl) Try.func13 rfl (rs := [.tmp 4]) rfl (bad := []) (by kernel_rfl) _ _ (m := 13) rfl]
  simp (maxSteps := 1000000) (disch := first | decide | omega | (simp only [go_sem]; first | done | omega)) only [go_sem, Int.reduceToNat, Nat.reduceMul, Nat.reduceAdd, Nat.reduceSub, ↓EU_region, ↓EU_draw]
  repeat refine WPo_ob ?_
  refine (path_ev B id _).mono ?_
  rintro _ rfl
  rw [next_push]
  have x1 : Ext h (((h.push (.cells [.int .i64 0] 0)).push (.cells [ptr B 0] 0)).push (.cells [.int .i64 id] 0)) := by repeat (first | exact Ext.refl _ | assumption | refine Ext.push ?_ _ | refine Ext.set ?_ _ _ (by first | omega | (simp only [next_push, next_set]; omega)))
  have c0 : (((h.push (.cells [.int .i64 0] 0)).push (.cells [ptr B 0] 0)).push (.cells [.int .i64 id] 0)).get h.next = .cells [.int .i64 0] 0 := by simp (maxSteps := 1000000) (disch := first | decide | omega | (simp only [go_sem]; first | done | omega)) only [go_sem, Int.reduceToNat, Nat.reduceMul, Nat.reduceAdd, Nat.reduceSub, ↓EU_region, ↓EU_draw]
  have c1 : (((h.push (.cells [.int .i64 0] 0)).push (.cells [ptr B 0] 0)).push (.cells [.int .i64 id] 0)).get (h.next + 1) = .cells [ptr B 0] 0 := by simp (maxSteps := 1000000) (disch := first | decide | omega | (simp only [go_sem]; first | done | omega)) only [go_sem, Int.reduceToNat, Nat.reduceMul, Nat.reduceAdd, Nat.reduceSub, ↓EU_region, ↓EU_draw]
  have c2 : (((h.push (.cells [.int .i64 0] 0)).push (.cells [ptr B 0] 0)).push (.cells [.int .i64 id] 0)).get (h.next + 2) = .cells [.int .i64 id] 0 := by simp (maxSteps := 1000000) (disch := first | decide | omega | (simp only [go_sem]; first | done | omega)) only [go_sem, Int.reduceToNat, Nat.reduceMul, Nat.reduceAdd, Nat.reduceSub, ↓EU_region, ↓EU_draw]
  have hn1 : (((h.push (.cells [.int .i64 0] 0)).push (.cells [ptr B 0] 0)).push (.cells [.int .i64 id] 0)).next = h.next + 3 := by simp (maxSteps := 1000000) (disch := first | decide | omega | (simp only [go_sem]; first | done | omega)) only [go_sem, Int.reduceToNat, Nat.reduceMul, Nat.reduceAdd, Nat.reduceSub, ↓EU_region, ↓EU_draw]
  generalize ((h.push (.cells [.int .i64 0] 0)).push (.cells [ptr B 0] 0)).push (.cells [.int .i64 id] 0) = h1 at *
  simp (maxSteps := 1000000) (disch := first | decide | omega | (simp only [go_sem]; first | done | omega)) only [go_sem, Int.reduceToNat, Nat.reduceMul, Nat.reduceAdd, Nat.reduceSub, ↓EU_region, ↓EU_draw]
  repeat refine WPo_ob ?_
  refine range_rule' stR (fun p h' => p = none ∧ h'.get h.next = .cells [.int .i64 l.length] 0 ∧ h'.get h1.next = .defd ∧ h1.next < h'.next ∧ Ext h h') stR_b ?_ ?_ ?_
  · intro LB hLB
    have g0 : ((h1.push .defd).push (LB .ready none)).get h.next = .cells [.int .i64 0] 0 := by rw [get_push_old _ (by rw [next_push]; omega), get_push_old _ (by omega)]; exact c0
    have g1 : ((h1.push .defd).push (LB .ready none)).get (h.next + 1) = .cells [ptr B 0] 0 := by rw [get_push_old _ (by rw [next_push]; omega), get_push_old _ (by omega)]; exact c1
    have g2 : ((h1.push .defd).push (LB .ready none)).get (h.next + 2) = .cells [.int .i64 id] 0 := by rw [get_push_old _ (by rw [next_push]; omega), get_push_old _ (by omega)]; exact c2
    have g3 : ((h1.push .defd).push (LB .ready none)).get h1.next = .defd := by rw [get_push_old _ (by rw [next_push]; omega)]; exact get_push_new _ _
    have g4 : ((h1.push .defd).push (LB .ready none)).get (h1.next + 1) = LB .ready none := by rw [← next_push h1 .defd]; exact get_push_new _ _
    have gx : Ext h1 ((h1.push .defd).push (LB .ready none)) := ((Ext.refl h1).push _).push _
    have gn : ((h1.push .defd).push (LB .ready none)).next = h1.next + 2 := by rw [next_push, next_push]
    have gg := (g.ext x1).ext gx
    generalize (h1.push .defd).push (LB .ready none) = hb at *
    have gB := g.2.2
    refine (walk_ev gl B (h.next + 2) (h.next + 1) id l hp (by omega) (yieldV (h1.next + 1)) (fun i h' => Mod (fun j => j = h.next ∨ j = h1.next + 1) hb h' ∧ h'.get h.next = .cells [.int .i64 i] 0 ∧ h'.get (h1.next + 1) = LB .ready none) (fun _ => False) hb ?_ g2 ⟨Mod.refl _ _, g0, g4⟩ ?_).mono ?_
    · rintro i h' ⟨m, k0, k4⟩
      have hm := m.le
      exact ⟨⟨by rw [m.old' (by omega) (by omega)]; exact gg.1, gg.2.1, by omega⟩, by rw [m.old' (by omega) (by omega)]; exact g1⟩
    · rintro i x h' hx ⟨m, k0, k4⟩
      have hm := m.le
      have hil := (List.getElem?_eq_some_iff.1 hx).1
      refine round_rule' hLB k4 rfl (EC_skip _ _) ?_
      rw [setP1, EC_EU (bad := []) (by kernel_rfl)]
      have k0' : (h'.set (h1.next + 1) (LB .busy none)).get h.next = .cells [.int .i64 i] 0 := by rw [get_set_ne _ (by omega)]; exact k0
      have k4' : (h'.set (h1.next + 1) (LB .busy none)).get (h1.next + 1) = LB .busy none := get_set_same _ _ _
      have m' : Mod (fun j => j = h.next ∨ j = h1.next + 1) hb (h'.set (h1.next + 1) (LB .busy none)) := m.set _ _ (fun _ => .inr rfl)
      have hn' : (h'.set (h1.next + 1) (LB .busy none)).next = h'.next := next_set _ _ _
      generalize h'.set (h1.next + 1) (LB .busy none) = h2 at *
      have hwi : wrapF .i64 ((i : Int) + 1) = ((i + 1 : Nat) : Int) := by rw [wrap64 (by omega)]; rfl
      simp (maxSteps := 1000000) (disch := first | decide | omega | (simp only [go_sem]; first | done | omega)) only [go_sem, Int.reduceToNat, Nat.reduceMul, Nat.reduceAdd, Nat.reduceSub, ↓EU_region, ↓EU_draw, k0', hwi]
      exact ⟨k4', .inl ⟨trivial, .inl ⟨trivial, (m'.set _ _ (fun _ => .inl rfl)).set _ _ (fun _ => .inr rfl), trivial, trivial⟩⟩⟩
    · rintro ⟨v, h'⟩ (⟨m, k0, k4⟩ | k)
      · have hm := m.le
        simp only at k4
        refine ⟨none, k4, rfl, by rw [get_set_ne _ (by omega)]; exact k0, ?_, by rw [next_set]; omega, ?_⟩
        · rw [get_set_ne _ (by omega), m.old' (by omega) (by omega)]; exact g3
        · refine Mod.ext ?_
          have e1 : Ext h hb := x1.trans gx
          exact (e1.mod (fun _ => False)).drop ((m.set _ _ (fun _ => .inr rfl)).mono fun i _ q => .inr (by omega))
      · exact k.elim
  · rintro h' ⟨_, k0, k3, hn, xx⟩
    have k3' : (h'.set h1.next .dead).next = h'.next := next_set _ _ _
    simp (maxSteps := 1000000) (disch := first | decide | omega | (simp only [go_sem]; first | done | omega)) only [go_sem, Int.reduceToNat, Nat.reduceMul, Nat.reduceAdd, Nat.reduceSub, ↓EU_region, ↓EU_draw, k0]
    rw [leaveK_dr _ _ _ _ _ k3]
    simp (maxSteps := 1000000) (disch := first | decide | omega | (simp only [go_sem]; first | done | omega)) only [go_sem, Int.reduceToNat, Nat.reduceMul, Nat.reduceAdd, Nat.reduceSub, ↓EU_region, ↓EU_draw]
    exact ⟨trivial, xx.set h1.next _ (by omega)⟩
  · rintro c h' ⟨q, _⟩
    cases q
end Go.Proofs.Ytagjgigknnaphaa.EV
