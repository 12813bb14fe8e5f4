/- Contracts: groups: Under, Chain. No condition. -/
import Derived.Test.YtagjgigknnaphaaGrp3
namespace Go.Proofs.Ytagjgigknnaphaa.EV
open Go Go.Proofs
set_option linter.unusedVariables false
set_option linter.unusedSimpArgs false
set_option maxRecDepth 100000
set_option pp.deepTerms false
set_option pp.deepTerms.threshold 20
set_option maxHeartbeats 2000000 in
theorem under_ev (gl : List Gp) (B : Nat) (id up : Int) (l : List Int) (hp : PA gl id l) (hl : l.length ≤ 1000) (h : Heap) (g : GR h B gl) :
    Pu (EF Try.prog O0 11 [ptr B 0, .int .i64 id, .int .i64 up] h) h (.bool (l.contains up)) := by
  unfold Pu
  rw [EF_body (O := O0) (by kernel_rfl) Try.func11 rfl (rs := [.cell 6 4]) rfl (bad := []) (by kernel_rfl) _ _ (m := 15) rfl]
  simp (maxSteps := 1000000) (disch := first | decide | omega | (simp only [go_sem]; first | done | omega)) only [go_sem, Int.reduceToNat, Nat.reduceMul, Nat.reduceAdd, Nat.reduceSub, ↓EU_region, ↓EU_draw]
  repeat refine WPo_ob ?_
  refine (path_ev B id _).mono ?_
  rintro _ rfl
  rw [next_push, next_push]
  have x1 : Ext h ((((h.push (.cells [.int .i64 up] 0)).push (.cells [.bool false] 0)).push (.cells [ptr B 0] 0)).push (.cells [.int .i64 id] 0)) := by repeat (first | exact Ext.refl _ | assumption | refine Ext.push ?_ _ | refine Ext.set ?_ _ _ (by first | omega | (simp only [next_push, next_set]; omega)))
  have c0 : ((((h.push (.cells [.int .i64 up] 0)).push (.cells [.bool false] 0)).push (.cells [ptr B 0] 0)).push (.cells [.int .i64 id] 0)).get h.next = .cells [.int .i64 up] 0 := by simp (maxSteps := 1000000) (disch := first | decide | omega | (simp only [go_sem]; first | done | omega)) only [go_sem, Int.reduceToNat, Nat.reduceMul, Nat.reduceAdd, Nat.reduceSub, ↓EU_region, ↓EU_draw]
  have cr : ((((h.push (.cells [.int .i64 up] 0)).push (.cells [.bool false] 0)).push (.cells [ptr B 0] 0)).push (.cells [.int .i64 id] 0)).get (h.next + 1) = .cells [.bool false] 0 := by simp (maxSteps := 1000000) (disch := first | decide | omega | (simp only [go_sem]; first | done | omega)) only [go_sem, Int.reduceToNat, Nat.reduceMul, Nat.reduceAdd, Nat.reduceSub, ↓EU_region, ↓EU_draw]
  have c1 : ((((h.push (.cells [.int .i64 up] 0)).push (.cells [.bool false] 0)).push (.cells [ptr B 0] 0)).push (.cells [.int .i64 id] 0)).get (h.next + 2) = .cells [ptr B 0] 0 := by simp (maxSteps := 1000000) (disch := first | decide | omega | (simp only [go_sem]; first | done | omega)) only [go_sem, Int.reduceToNat, Nat.reduceMul, Nat.reduceAdd, Nat.reduceSub, ↓EU_region, ↓EU_draw]
  have c2 : ((((h.push (.cells [.int .i64 up] 0)).push (.cells [.bool false] 0)).push (.cells [ptr B 0] 0)).push (.cells [.int .i64 id] 0)).get (h.next + 3) = .cells [.int .i64 id] 0 := by simp (maxSteps := 1000000) (disch := first | decide | omega | (simp only [go_sem]; first | done | omega)) only [go_sem, Int.reduceToNat, Nat.reduceMul, Nat.reduceAdd, Nat.reduceSub, ↓EU_region, ↓EU_draw]
  have hn1 : ((((h.push (.cells [.int .i64 up] 0)).push (.cells [.bool false] 0)).push (.cells [ptr B 0] 0)).push (.cells [.int .i64 id] 0)).next = h.next + 4 := by simp (maxSteps := 1000000) (disch := first | decide | omega | (simp only [go_sem]; first | done | omega)) only [go_sem, Int.reduceToNat, Nat.reduceMul, Nat.reduceAdd, Nat.reduceSub, ↓EU_region, ↓EU_draw]
  generalize (((h.push (.cells [.int .i64 up] 0)).push (.cells [.bool false] 0)).push (.cells [ptr B 0] 0)).push (.cells [.int .i64 id] 0) = h1 at *
  simp (maxSteps := 1000000) (disch := first | decide | omega | (simp only [go_sem]; first | done | omega)) only [go_sem, Int.reduceToNat, Nat.reduceMul, Nat.reduceAdd, Nat.reduceSub, ↓EU_region, ↓EU_draw]
  repeat refine WPo_ob ?_
  refine range_rule' stR (fun p h' => ((p = none ∧ l.contains up = false ∧ h'.get (h.next + 1) = .cells [.bool false] 0) ∨ (p = some .ret ∧ l.contains up = true ∧ h'.get (h.next + 1) = .cells [.bool true] 0)) ∧ h'.get h1.next = .defd ∧ h1.next < h'.next ∧ Ext h h') stR_b ?_ ?_ ?_
  · intro LB hLB
    have g0 : ((h1.push .defd).push (LB .ready none)).get h.next = .cells [.int .i64 up] 0 := by rw [get_push_old _ (by rw [next_push]; omega), get_push_old _ (by omega)]; exact c0
    have gr : ((h1.push .defd).push (LB .ready none)).get (h.next + 1) = .cells [.bool false] 0 := by rw [get_push_old _ (by rw [next_push]; omega), get_push_old _ (by omega)]; exact cr
    have g1 : ((h1.push .defd).push (LB .ready none)).get (h.next + 2) = .cells [ptr B 0] 0 := by rw [get_push_old _ (by rw [next_push]; omega), get_push_old _ (by omega)]; exact c1
    have g2 : ((h1.push .defd).push (LB .ready none)).get (h.next + 3) = .cells [.int .i64 id] 0 := by rw [get_push_old _ (by rw [next_push]; omega), get_push_old _ (by omega)]; exact c2
    have g3 : ((h1.push .defd).push (LB .ready none)).get h1.next = .defd := by rw [get_push_old _ (by rw [next_push]; omega)]; exact get_push_new _ _
    have g4 : ((h1.push .defd).push (LB .ready none)).get (h1.next + 1) = LB .ready none := by rw [← next_push h1 .defd]; exact get_push_new _ _
    have gx : Ext h1 ((h1.push .defd).push (LB .ready none)) := ((Ext.refl h1).push _).push _
    have gn : ((h1.push .defd).push (LB .ready none)).next = h1.next + 2 := by rw [next_push, next_push]
    have gg := (g.ext x1).ext gx
    generalize (h1.push .defd).push (LB .ready none) = hb at *
    have gB := g.2.2
    have e1 : Ext h hb := x1.trans gx
    refine (walk_ev gl B (h.next + 3) (h.next + 2) id l hp (by omega) (yieldV (h1.next + 1)) (fun i h' => Mod (fun j => j = h1.next + 1) hb h' ∧ h'.get (h1.next + 1) = LB .ready none ∧ (l.take i).contains up = false) (fun h' => Mod (fun j => j = h.next + 1 ∨ j = h1.next + 1) hb h' ∧ h'.get (h.next + 1) = .cells [.bool true] 0 ∧ h'.get (h1.next + 1) = LB .done (some .ret) ∧ l.contains up = true) hb ?_ g2 ⟨Mod.refl _ _, g4, rfl⟩ ?_).mono ?_
    · rintro i h' ⟨m, k4, k5⟩
      have hm := m.le
      exact ⟨⟨by rw [m.old' (by omega) (by omega)]; exact gg.1, gg.2.1, by omega⟩, by rw [m.old' (by omega) (by omega)]; exact g1⟩
    · rintro i x h' hx ⟨m, k4, k5⟩
      have hm := m.le
      have hil := (List.getElem?_eq_some_iff.1 hx).1
      have k0 : h'.get h.next = .cells [.int .i64 up] 0 := by rw [m.old' (by omega) (by omega)]; exact g0
      have kr : h'.get (h.next + 1) = .cells [.bool false] 0 := by rw [m.old' (by omega) (by omega)]; exact gr
      refine round_rule' hLB k4 rfl (tm1 := ?_) ?_ ?_
      rotate_left
      · rw [setP1, EC_EU (bad := []) (by kernel_rfl)]
        simp (maxSteps := 1000000) (disch := first | decide | omega | (simp only [go_sem]; first | done | omega)) only [go_sem, Int.reduceToNat, Nat.reduceMul, Nat.reduceAdd, Nat.reduceSub, ↓EU_region, ↓EU_draw]
        rfl
      · rw [EC_EU (bad := []) (by kernel_rfl)]
        have k0' : (h'.set (h1.next + 1) (LB .busy none)).get h.next = .cells [.int .i64 up] 0 := by rw [get_set_ne _ (by omega)]; exact k0
        have kr' : (h'.set (h1.next + 1) (LB .busy none)).get (h.next + 1) = .cells [.bool false] 0 := by rw [get_set_ne _ (by omega)]; exact kr
        have k4' : (h'.set (h1.next + 1) (LB .busy none)).get (h1.next + 1) = LB .busy none := get_set_same _ _ _
        have m' : Mod (fun j => j = h1.next + 1) hb (h'.set (h1.next + 1) (LB .busy none)) := m.set _ _ (fun _ => rfl)
        have hn' : (h'.set (h1.next + 1) (LB .busy none)).next = h'.next := next_set _ _ _
        generalize h'.set (h1.next + 1) (LB .busy none) = h2 at *
        by_cases q : x = up
        · have dq : decide (x = up) = true := decide_eq_true q
          have hcu : l.contains up = true := by rw [List.contains_iff_mem]; rw [← q]; exact List.mem_of_getElem? hx
          simp (maxSteps := 1000000) (disch := first | decide | omega | (simp only [go_sem]; first | done | omega)) only [go_sem, Int.reduceToNat, Nat.reduceMul, Nat.reduceAdd, Nat.reduceSub, ↓EU_region, ↓EU_draw, k0', kr', dq]
          exact ⟨k4', .inr (.inl ⟨trivial, .inr ⟨trivial, ((m'.mono fun _ _ q => .inr q).set _ _ (fun _ => .inl rfl)).set _ _ (fun _ => .inr rfl), trivial, trivial, hcu⟩⟩)⟩
        · have dq : decide (x = up) = false := decide_eq_false q
          have hcu : (l.take (i + 1)).contains up = false := by
            rw [List.take_add_one, hx, Bool.eq_false_iff]
            intro hc
            rw [List.contains_iff_mem, List.mem_append] at hc
            rcases hc with hc | hc
            · rw [← List.contains_iff_mem, k5] at hc; cases hc
            · simp at hc; exact q hc.symm
          simp (maxSteps := 1000000) (disch := first | decide | omega | (simp only [go_sem]; first | done | omega)) only [go_sem, Int.reduceToNat, Nat.reduceMul, Nat.reduceAdd, Nat.reduceSub, ↓EU_region, ↓EU_draw, k0', kr', dq]
          exact ⟨k4', .inl ⟨trivial, .inl ⟨trivial, m'.set _ _ (fun _ => rfl), trivial, hcu⟩⟩⟩
    · rintro ⟨v, h'⟩ (⟨m, k4, k5⟩ | ⟨m, kr, k4, k5⟩)
      · have hm := m.le
        simp only at k4 k5
        rw [List.take_length] at k5
        refine ⟨none, k4, .inl ⟨rfl, k5, ?_⟩, ?_, by rw [next_set]; omega, ?_⟩
        · rw [get_set_ne _ (by omega), m.old' (by omega) (by omega)]; exact gr
        · rw [get_set_ne _ (by omega), m.old' (by omega) (by omega)]; exact g3
        · exact Mod.ext ((e1.mod (fun _ => False)).drop ((m.set _ _ (fun _ => rfl)).mono fun i _ q => .inr (by omega)))
      · have hm := m.le
        simp only at k4 k5 kr
        refine ⟨some .ret, k4, .inr ⟨rfl, k5, ?_⟩, ?_, by rw [next_set]; omega, ?_⟩
        · rw [get_set_ne _ (by omega)]; exact kr
        · rw [get_set_ne _ (by omega), m.old' (by omega) (by omega)]; exact g3
        · exact Mod.ext ((e1.mod (fun _ => False)).drop ((m.set _ _ (fun _ => .inr rfl)).mono fun i _ q => .inr (by omega)))
  · rintro h' ⟨⟨_, k5, k0⟩ | ⟨k, _⟩, k3, hn, xx⟩
    · simp (maxSteps := 1000000) (disch := first | decide | omega | (simp only [go_sem]; first | done | omega)) only [go_sem, Int.reduceToNat, Nat.reduceMul, Nat.reduceAdd, Nat.reduceSub, ↓EU_region, ↓EU_draw, k0]
      rw [leaveK_dr _ _ _ _ _ (by rw [get_set_ne _ (by omega)]; exact k3)]
      rw [k5]
      simp (maxSteps := 1000000) (disch := first | decide | omega | (simp only [go_sem]; first | done | omega)) only [go_sem, Int.reduceToNat, Nat.reduceMul, Nat.reduceAdd, Nat.reduceSub, ↓EU_region, ↓EU_draw]
      exact ⟨trivial, (xx.set (h.next + 1) _ (by omega)).set h1.next _ (by omega)⟩
    · cases k
  · rintro c h' ⟨⟨k, _⟩ | ⟨k, k5, k0⟩, k3, hn, xx⟩
    · cases k
    · cases k
      rw [EC_ret]
      refine ⟨_, rfl, ?_⟩
      simp (maxSteps := 1000000) (disch := first | decide | omega | (simp only [go_sem]; first | done | omega)) only [go_sem, Int.reduceToNat, Nat.reduceMul, Nat.reduceAdd, Nat.reduceSub, ↓EU_region, ↓EU_draw]
      rw [leaveK_dr _ _ _ _ _ k3, k5]
      have k0' : (h'.set h1.next .dead).get (h.next + 1) = .cells [.bool true] 0 := by rw [get_set_ne _ (by omega)]; exact k0
      simp (maxSteps := 1000000) (disch := first | decide | omega | (simp only [go_sem]; first | done | omega)) only [go_sem, Int.reduceToNat, Nat.reduceMul, Nat.reduceAdd, Nat.reduceSub, ↓EU_region, ↓EU_draw, k0']
      exact ⟨trivial, xx.set h1.next _ (by omega)⟩
end Go.Proofs.Ytagjgigknnaphaa.EV
