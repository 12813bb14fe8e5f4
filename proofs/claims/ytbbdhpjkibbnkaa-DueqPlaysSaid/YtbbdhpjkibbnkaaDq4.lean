/- Contracts: due queues: First. No condition. -/
import Derived.Test.YtbbdhpjkibbnkaaDq3
namespace Go.Proofs.Ytbbdhpjkibbnkaa.EV
open Go Go.Proofs
set_option linter.unusedVariables false
set_option linter.unusedSimpArgs false
set_option maxRecDepth 100000
set_option pp.deepTerms false
set_option pp.deepTerms.threshold 20
/-- the better of two -/
noncomputable def stF (s : RI × Bool) (x : RI) : RI × Bool := if s.2 = false ∨ x.due < s.1.due ∨ (x.due = s.1.due ∧ x.id < s.1.id) then (x, true) else s
noncomputable def foF (l : List RI) : RI × Bool := l.foldl stF (⟨0, 0, 0⟩, false)
theorem foF_s {l : List RI} {i : Nat} {x : RI} (h : l[i]? = some x) : foF (l.take (i + 1)) = stF (foF (l.take i)) x := by
  have : l.take (i + 1) = l.take i ++ [x] := by rw [List.take_add_one, h]; rfl
  unfold foF
  rw [this, List.foldl_append]
  rfl
/-- what First comes to: the best of those ahead of the first with a key above -/
noncomputable def FsOf (most : Int) (M : List RI) (s : RI × Bool) : Prop := ∃ i, i ≤ M.length ∧ (∀ j y, j < i → M[j]? = some y → y.key ≤ most) ∧ (∀ y, M[i]? = some y → ¬ y.key ≤ most) ∧ s = foF (M.take i)
noncomputable def fsI (LBB : Blk) (h1 hb k : Nat) (most : Int) (M : List RI) (i : Nat) (h' : Heap) : Prop := h'.get (h1 + 1) = LBB ∧ hb ≤ h'.next ∧ h'.get (k + 1) = .cells (rE (foF (M.take i)).1) 0 ∧ h'.get (k + 2) = .cells [.bool (foF (M.take i)).2] 0 ∧ (∀ j y, j < i → M[j]? = some y → y.key ≤ most)
theorem cmpI_lt (x y : Int) : decide (cmpI x y < 0) = decide (x < y) := by
  rcases cmpI_cases x y with ⟨h, e⟩ | ⟨h, e⟩ | ⟨h, e⟩
  · rw [e, decide_eq_true h]; rfl
  · rw [e, decide_eq_false (by omega : ¬ x < y)]; rfl
  · rw [e, decide_eq_false (by omega : ¬ x < y)]; rfl
theorem cmpI_eq (x y : Int) : decide (cmpI x y = 0) = decide (x = y) := by
  rcases cmpI_cases x y with ⟨h, e⟩ | ⟨h, e⟩ | ⟨h, e⟩
  · rw [e, decide_eq_false (by omega : ¬ x = y)]; rfl
  · rw [e, decide_eq_true h]; rfl
  · rw [e, decide_eq_false (by omega : ¬ x = y)]; rfl
set_option maxHeartbeats 4000000 in
theorem dfirst_ev {h : Heap} {B b dm : Nat} {lv : Value} {mb : Nat} {most0 st : Int} {L : List QI} {du : Int → Int} (q : DQ h B b dm lv mb most0 st L du) (most : Int) (hL : L.length < 800000) :
    WPo (EF Try.prog O0 10 [ptr B 0, .int .i64 most] h) fun r => (∃ s, FsOf most (wholeL du L) s ∧ r.1 = .tuple ⟨[.agg ⟨rE s.1⟩, .bool s.2]⟩) ∧ Ext h r.2 := by
  rw [EF_body (O := O0) (by kernel_rfl) Try.func10 rfl (rs := [.cell 4 29, .cell 5 4]) rfl (bad := [7]) (by kernel_rfl) _ _ (m := 40) rfl]
  simp (maxSteps := 1000000) (disch := first | decide | omega | (simp only [go_sem]; first | done | omega)) only [go_sem, Int.reduceToNat, Nat.reduceMul, Nat.reduceAdd, Nat.reduceSub, ↓EU_region, ↓EU_draw, dall_fn]
  have x1 : Ext h ((((h.push (.cells [.int .i64 most] 0)).push (.cells [.int .i64 0, .int .i64 0, .int .i64 0] 0)).push (.cells [.bool false] 0)).push (.cells [ptr B 0] 0)) := by repeat (first | exact Ext.refl _ | assumption | refine Ext.push ?_ _ | refine Ext.set ?_ _ _ (by first | omega | (simp only [next_push, next_set]; omega)))
  have g0 : ((((h.push (.cells [.int .i64 most] 0)).push (.cells [.int .i64 0, .int .i64 0, .int .i64 0] 0)).push (.cells [.bool false] 0)).push (.cells [ptr B 0] 0)).get h.next = .cells [.int .i64 most] 0 := by simp (maxSteps := 1000000) (disch := first | decide | omega | (simp only [go_sem]; first | done | omega)) only [go_sem, Int.reduceToNat, Nat.reduceMul, Nat.reduceAdd, Nat.reduceSub, ↓EU_region, ↓EU_draw]
  have g1 : ((((h.push (.cells [.int .i64 most] 0)).push (.cells [.int .i64 0, .int .i64 0, .int .i64 0] 0)).push (.cells [.bool false] 0)).push (.cells [ptr B 0] 0)).get (h.next + 1) = .cells [.int .i64 0, .int .i64 0, .int .i64 0] 0 := by simp (maxSteps := 1000000) (disch := first | decide | omega | (simp only [go_sem]; first | done | omega)) only [go_sem, Int.reduceToNat, Nat.reduceMul, Nat.reduceAdd, Nat.reduceSub, ↓EU_region, ↓EU_draw]
  have g2 : ((((h.push (.cells [.int .i64 most] 0)).push (.cells [.int .i64 0, .int .i64 0, .int .i64 0] 0)).push (.cells [.bool false] 0)).push (.cells [ptr B 0] 0)).get (h.next + 2) = .cells [.bool false] 0 := by simp (maxSteps := 1000000) (disch := first | decide | omega | (simp only [go_sem]; first | done | omega)) only [go_sem, Int.reduceToNat, Nat.reduceMul, Nat.reduceAdd, Nat.reduceSub, ↓EU_region, ↓EU_draw]
  have g3 : ((((h.push (.cells [.int .i64 most] 0)).push (.cells [.int .i64 0, .int .i64 0, .int .i64 0] 0)).push (.cells [.bool false] 0)).push (.cells [ptr B 0] 0)).get (h.next + 3) = .cells [ptr B 0] 0 := by simp (maxSteps := 1000000) (disch := first | decide | omega | (simp only [go_sem]; first | done | omega)) only [go_sem, Int.reduceToNat, Nat.reduceMul, Nat.reduceAdd, Nat.reduceSub, ↓EU_region, ↓EU_draw]
  have hn1 : ((((h.push (.cells [.int .i64 most] 0)).push (.cells [.int .i64 0, .int .i64 0, .int .i64 0] 0)).push (.cells [.bool false] 0)).push (.cells [ptr B 0] 0)).next = h.next + 4 := by simp (maxSteps := 1000000) (disch := first | decide | omega | (simp only [go_sem]; first | done | omega)) only [go_sem, Int.reduceToNat, Nat.reduceMul, Nat.reduceAdd, Nat.reduceSub, ↓EU_region, ↓EU_draw]
  generalize (((h.push (.cells [.int .i64 most] 0)).push (.cells [.int .i64 0, .int .i64 0, .int .i64 0] 0)).push (.cells [.bool false] 0)).push (.cells [ptr B 0] 0) = h1 at *
  have hit := fun bx hA => dall_it q (h.next + 3) bx hA hL
  have hML := wholeL_len du L
  generalize wholeL du L = M at *
  repeat refine WPo_ob ?_
  refine range_rule' stR (fun p h' => (p = none ∨ p = some (.exit 0)) ∧ (∃ s, FsOf most M s ∧ h'.get (h.next + 1) = .cells (rE s.1) 0 ∧ h'.get (h.next + 2) = .cells [.bool s.2] 0) ∧ h'.get h1.next = .defd ∧ h1.next < h'.next ∧ Ext h h') stR_b ?_ ?_ ?_
  · intro LB hLB
    have g0 : ((h1.push .defd).push (LB .ready none)).get h.next = .cells [.int .i64 most] 0 := by rw [get_push_old _ (by rw [next_push]; omega), get_push_old _ (by omega)]; exact g0
    have g1 : ((h1.push .defd).push (LB .ready none)).get (h.next + 1) = .cells [.int .i64 0, .int .i64 0, .int .i64 0] 0 := by rw [get_push_old _ (by rw [next_push]; omega), get_push_old _ (by omega)]; exact g1
    have g2 : ((h1.push .defd).push (LB .ready none)).get (h.next + 2) = .cells [.bool false] 0 := by rw [get_push_old _ (by rw [next_push]; omega), get_push_old _ (by omega)]; exact g2
    have g3 : ((h1.push .defd).push (LB .ready none)).get (h.next + 3) = .cells [ptr B 0] 0 := by rw [get_push_old _ (by rw [next_push]; omega), get_push_old _ (by omega)]; exact g3
    have gd : ((h1.push .defd).push (LB .ready none)).get h1.next = .defd := by rw [get_push_old _ (by rw [next_push]; omega)]; exact get_push_new _ _
    have g4 : ((h1.push .defd).push (LB .ready none)).get (h1.next + 1) = LB .ready none := by rw [← next_push h1 .defd]; exact get_push_new _ _
    have gx : Ext h1 ((h1.push .defd).push (LB .ready none)) := ((Ext.refl h1).push _).push _
    have gn : ((h1.push .defd).push (LB .ready none)).next = h1.next + 2 := by rw [next_push, next_push]
    generalize (h1.push .defd).push (LB .ready none) = hb at *
    have e1 : Ext h hb := x1.trans gx
    have hbx : BX [(h.next + 3, ptr B 0), (h.next, .int .i64 most)] hb := BX.cons g3 (by omega) (BX.one g0 (by omega))
    refine (hit [(h.next + 3, ptr B 0), (h.next, .int .i64 most)] List.mem_cons_self (yieldV (h1.next + 1)) (fun i h' W => fsI (LB .ready none) h1.next hb.next h.next most M i h' ∧ W = fun j => j = h.next + 1 ∨ j = h.next + 2 ∨ j = h1.next + 1) (fun h' W => (∃ i, i ≤ M.length ∧ (∀ y, M[i]? = some y → ¬ y.key ≤ most) ∧ fsI (LB .done (some (.exit 0))) h1.next hb.next h.next most M i h') ∧ W = fun j => j = h.next + 1 ∨ j = h.next + 2 ∨ j = h1.next + 1) hb (fun j => j = h.next + 1 ∨ j = h.next + 2 ∨ j = h1.next + 1) rfl ?_ ?_ ?_ e1 hbx ⟨⟨g4, Nat.le_refl _, g1, g2, fun j y hj => by omega⟩, rfl⟩ ?_).mono ?_
    · rintro i h' h'' W S ⟨⟨k4, kn, k1, k2, ka⟩, rfl⟩ md hd
      exact ⟨⟨by rw [md.old _ (by omega) (hd _ (.inr (.inr rfl)))]; exact k4, Nat.le_trans kn md.le, by rw [md.old _ (by omega) (hd _ (.inl rfl))]; exact k1, by rw [md.old _ (by omega) (hd _ (.inr (.inl rfl)))]; exact k2, ka⟩, rfl⟩
    · rintro _ h' h'' W S ⟨⟨i, hi, hx, k4, kn, k1, k2, ka⟩, rfl⟩ md hd
      exact ⟨⟨i, hi, hx, by rw [md.old _ (by omega) (hd _ (.inr (.inr rfl)))]; exact k4, Nat.le_trans kn md.le, by rw [md.old _ (by omega) (hd _ (.inl rfl))]; exact k1, by rw [md.old _ (by omega) (hd _ (.inr (.inl rfl)))]; exact k2, ka⟩, rfl⟩
    · rintro i h' W ⟨⟨k4, kn, k1, k2, ka⟩, rfl⟩ j hj
      have hq : h.next + 1 ≤ j ∧ j < h'.next ∧ j ≠ h.next + 3 := by omega
      refine ⟨by omega, hq.2.1, fun p hp e => ?_⟩
      rcases List.mem_cons.1 hp with rfl | hp
      · exact hq.2.2 e
      · rw [List.mem_singleton] at hp
        subst hp
        simp only at e
        omega
    · rintro i x h' W hx ⟨⟨k4, kn, k1, k2, ka⟩, rfl⟩ xx bb
      have hi := (List.getElem?_eq_some_iff.1 hx).1
      have kM := (bb (h.next, .int .i64 most) (List.mem_cons_of_mem _ List.mem_cons_self)).1
      unfold argR
      refine round_rule2 hLB k4 rfl (tm1 := ?_) (hA := h'.push (.cells [.int .i64 x.key, .int .i64 x.due, .int .i64 x.id] 0)) ?_ (by rw [get_push_old _ (by omega)]; exact k4) ?_
      rotate_left
      · rw [setP1, EC_EU (bad := []) (by kernel_rfl)]
        simp (maxSteps := 1000000) (disch := first | decide | omega | (simp only [go_sem]; first | done | omega)) only [go_sem, Int.reduceToNat, Nat.reduceMul, Nat.reduceAdd, Nat.reduceSub, ↓EU_region, ↓EU_draw]
        rfl
      · rw [EC_EU (bad := []) (by kernel_rfl)]
        have kx : ((h'.push (.cells [.int .i64 x.key, .int .i64 x.due, .int .i64 x.id] 0)).set (h1.next + 1) (LB .busy none)).get h'.next = .cells [.int .i64 x.key, .int .i64 x.due, .int .i64 x.id] 0 := by rw [get_set_ne _ (by omega)]; exact get_push_new _ _
        have kMo : ((h'.push (.cells [.int .i64 x.key, .int .i64 x.due, .int .i64 x.id] 0)).set (h1.next + 1) (LB .busy none)).get h.next = .cells [.int .i64 most] 0 := by rw [get_set_ne _ (by omega), get_push_old _ (by omega)]; exact kM
        have k1' : ((h'.push (.cells [.int .i64 x.key, .int .i64 x.due, .int .i64 x.id] 0)).set (h1.next + 1) (LB .busy none)).get (h.next + 1) = .cells (rE (foF (M.take i)).1) 0 := by rw [get_set_ne _ (by omega), get_push_old _ (by omega)]; exact k1
        have k2' : ((h'.push (.cells [.int .i64 x.key, .int .i64 x.due, .int .i64 x.id] 0)).set (h1.next + 1) (LB .busy none)).get (h.next + 2) = .cells [.bool (foF (M.take i)).2] 0 := by rw [get_set_ne _ (by omega), get_push_old _ (by omega)]; exact k2
        have k4' : ((h'.push (.cells [.int .i64 x.key, .int .i64 x.due, .int .i64 x.id] 0)).set (h1.next + 1) (LB .busy none)).get (h1.next + 1) = LB .busy none := get_set_same _ _ _
        have m' : Mod (fun j => j = h.next + 1 ∨ j = h.next + 2 ∨ j = h1.next + 1) h' ((h'.push (.cells [.int .i64 x.key, .int .i64 x.due, .int .i64 x.id] 0)).set (h1.next + 1) (LB .busy none)) := ((Mod.refl _ _).push _).set _ _ (fun _ => .inr (.inr rfl))
        have n2 : ((h'.push (.cells [.int .i64 x.key, .int .i64 x.due, .int .i64 x.id] 0)).set (h1.next + 1) (LB .busy none)).next = h'.next + 1 := by rw [next_set, next_push]
        generalize (h'.push (.cells [.int .i64 x.key, .int .i64 x.due, .int .i64 x.id] 0)).set (h1.next + 1) (LB .busy none) = h2 at *
        have hst := foF_s hx
        have hto : ∀ y, M[i]? = some y → y = x := fun y hy => by rw [hx] at hy; exact (Option.some.inj hy).symm
        have k1o := k1'
        have k2o := k2'
        obtain ⟨s, hs⟩ : ∃ s, s = foF (M.take i) := ⟨_, rfl⟩
        rw [← hs] at k1' k2' hst
        obtain ⟨⟨sk, sd, si⟩, sb⟩ := s
        unfold rE at k1'
        simp only at k1' k2' hst
        by_cases hk : most < x.key
        · have dk : decide (most < x.key) = true := decide_eq_true hk
          simp (maxSteps := 1000000) (disch := first | decide | omega | (simp only [go_sem]; first | done | omega)) only [go_sem, Int.reduceToNat, Nat.reduceMul, Nat.reduceAdd, Nat.reduceSub, ↓EU_region, ↓EU_draw, kx, kMo, dk]
          exact ⟨k4', .inr (.inr ⟨0, rfl, .inr ⟨rfl, _, ⟨⟨i, by omega, fun y hy => by rw [hto y hy]; omega, get_set_same _ _ _, by show _ ≤ (h2.set _ _).next; rw [next_set]; omega, by show (h2.set _ _).get _ = _; rw [get_set_ne _ (by omega)]; exact k1o, by show (h2.set _ _).get _ = _; rw [get_set_ne _ (by omega)]; exact k2o, ka⟩, rfl⟩, fun j hj => .inl hj⟩, m'.set _ _ (fun _ => .inr (.inr rfl))⟩)⟩
        have dk : decide (most < x.key) = false := decide_eq_false hk
        have ka' : ∀ j y, j < i + 1 → M[j]? = some y → y.key ≤ most := fun j y hj hy => by
          by_cases e : j = i
          · subst e
            rw [hto y hy]; omega
          · exact ka j y (by omega) hy
        have cl := cmpI_lt x.due sd
        have ce := cmpI_eq x.due sd
        by_cases hbt : sb = false ∨ x.due < sd ∨ (x.due = sd ∧ x.id < si)
        · have hst2 : foF (M.take (i + 1)) = (x, true) := by rw [hst]; exact if_pos hbt
          have hfin : ∀ hh : Heap, hh = (h2.set (h.next + 1) (.cells [.int .i64 x.key, .int .i64 x.due, .int .i64 x.id] 0)).set (h.next + 2) (.cells [.bool true] 0) → hh.get (h1.next + 1) = LB .busy none ∧ fsI (LB .ready none) h1.next hb.next h.next most M (i + 1) (hh.set (h1.next + 1) (LB .ready none)) ∧ Mod (fun j => j = h.next + 1 ∨ j = h.next + 2 ∨ j = h1.next + 1) h' (hh.set (h1.next + 1) (LB .ready none)) := fun hh e => by
            subst e
            refine ⟨by rw [get_set_ne _ (by omega), get_set_ne _ (by omega)]; exact k4', ⟨get_set_same _ _ _, by rw [next_set, next_set, next_set]; omega, ?_, ?_, ka'⟩, ((m'.set _ _ (fun _ => .inl rfl)).set _ _ (fun _ => .inr (.inl rfl))).set _ _ (fun _ => .inr (.inr rfl))⟩
            · rw [get_set_ne _ (by omega), get_set_ne _ (by omega), get_set_same, hst2]; rfl
            · rw [get_set_ne _ (by omega), get_set_same, hst2]
          cases sb with
          | false =>
            simp (maxSteps := 1000000) (disch := first | decide | omega | (simp only [go_sem]; first | done | omega)) only [go_sem, Int.reduceToNat, Nat.reduceMul, Nat.reduceAdd, Nat.reduceSub, ↓EU_region, ↓EU_draw, kx, kMo, dk, k1', k2', cmp64_ev]
            obtain ⟨f1, f2, f3⟩ := hfin _ rfl
            exact ⟨k4', .inl ⟨trivial, .inl ⟨rfl, _, ⟨f2, rfl⟩, fun j hj => .inl hj⟩, f3⟩⟩
          | true =>
            by_cases hlt : x.due < sd
            · have d1 : decide (x.due < sd) = true := decide_eq_true hlt
              rw [d1] at cl
              simp (maxSteps := 1000000) (disch := first | decide | omega | (simp only [go_sem]; first | done | omega)) only [go_sem, Int.reduceToNat, Nat.reduceMul, Nat.reduceAdd, Nat.reduceSub, ↓EU_region, ↓EU_draw, kx, kMo, dk, k1', k2', cmp64_ev, cl]
              obtain ⟨f1, f2, f3⟩ := hfin _ rfl
              exact ⟨k4', .inl ⟨trivial, .inl ⟨rfl, _, ⟨f2, rfl⟩, fun j hj => .inl hj⟩, f3⟩⟩
            · have d1 : decide (x.due < sd) = false := decide_eq_false hlt
              have h2' : x.due = sd ∧ x.id < si := by
                rcases hbt with e | e | e
                · cases e
                · exact absurd e hlt
                · exact e
              have d2 : decide (x.due = sd) = true := decide_eq_true h2'.1
              have d3 : decide (x.id < si) = true := decide_eq_true h2'.2
              rw [d1] at cl
              rw [d2] at ce
              simp (maxSteps := 1000000) (disch := first | decide | omega | (simp only [go_sem]; first | done | omega)) only [go_sem, Int.reduceToNat, Nat.reduceMul, Nat.reduceAdd, Nat.reduceSub, ↓EU_region, ↓EU_draw, kx, kMo, dk, k1', k2', cmp64_ev, cl, ce, d3]
              obtain ⟨f1, f2, f3⟩ := hfin _ rfl
              exact ⟨k4', .inl ⟨trivial, .inl ⟨rfl, _, ⟨f2, rfl⟩, fun j hj => .inl hj⟩, f3⟩⟩
        · have hst2 : foF (M.take (i + 1)) = foF (M.take i) := by rw [hst, ← hs]; exact if_neg hbt
          have hsb : sb = true := by
            cases sb with
            | true => rfl
            | false => exact absurd (.inl rfl) hbt
          subst hsb
          have d1 : decide (x.due < sd) = false := decide_eq_false (fun e => hbt (.inr (.inl e)))
          rw [d1] at cl
          have f2 : fsI (LB .ready none) h1.next hb.next h.next most M (i + 1) (h2.set (h1.next + 1) (LB .ready none)) := ⟨get_set_same _ _ _, by rw [next_set]; omega, by rw [get_set_ne _ (by omega), hst2]; exact k1o, by rw [get_set_ne _ (by omega), hst2]; exact k2o, ka'⟩
          by_cases hd2 : x.due = sd
          · have d2 : decide (x.due = sd) = true := decide_eq_true hd2
            have d3 : decide (x.id < si) = false := decide_eq_false (fun e => hbt (.inr (.inr ⟨hd2, e⟩)))
            rw [d2] at ce
            simp (maxSteps := 1000000) (disch := first | decide | omega | (simp only [go_sem]; first | done | omega)) only [go_sem, Int.reduceToNat, Nat.reduceMul, Nat.reduceAdd, Nat.reduceSub, ↓EU_region, ↓EU_draw, kx, kMo, dk, k1', k2', cmp64_ev, cl, ce, d3]
            exact ⟨k4', .inl ⟨trivial, .inl ⟨rfl, _, ⟨f2, rfl⟩, fun j hj => .inl hj⟩, m'.set _ _ (fun _ => .inr (.inr rfl))⟩⟩
          · have d2 : decide (x.due = sd) = false := decide_eq_false hd2
            rw [d2] at ce
            simp (maxSteps := 1000000) (disch := first | decide | omega | (simp only [go_sem]; first | done | omega)) only [go_sem, Int.reduceToNat, Nat.reduceMul, Nat.reduceAdd, Nat.reduceSub, ↓EU_region, ↓EU_draw, kx, kMo, dk, k1', k2', cmp64_ev, cl, ce]
            exact ⟨k4', .inl ⟨trivial, .inl ⟨rfl, _, ⟨f2, rfl⟩, fun j hj => .inl hj⟩, m'.set _ _ (fun _ => .inr (.inr rfl))⟩⟩
    · rintro ⟨v, h'⟩ ⟨r, md⟩
      simp only at r md
      have nW : ∀ j, j < hb.next → j ≠ h.next + 1 → j ≠ h.next + 2 → j ≠ h1.next + 1 → h'.get j = hb.get j := fun j hj h1 h2 h3 => md.old j hj (fun e => by
        rcases e with e | e | e
        · exact h1 e
        · exact h2 e
        · exact h3 e)
      have fin : ∀ (i : Nat) (p : Option Code), (p = none ∨ p = some (.exit 0)) → i ≤ M.length → (∀ y, M[i]? = some y → ¬ y.key ≤ most) → fsI (LB (stR p) p) h1.next hb.next h.next most M i h' → ∃ p, h'.get (h1.next + 1) = LB (stR p) p ∧ (p = none ∨ p = some (.exit 0)) ∧ (∃ s, FsOf most M s ∧ (h'.set (h1.next + 1) (LB .exhausted p)).get (h.next + 1) = .cells (rE s.1) 0 ∧ (h'.set (h1.next + 1) (LB .exhausted p)).get (h.next + 2) = .cells [.bool s.2] 0) ∧ (h'.set (h1.next + 1) (LB .exhausted p)).get h1.next = .defd ∧ h1.next < (h'.set (h1.next + 1) (LB .exhausted p)).next ∧ Ext h (h'.set (h1.next + 1) (LB .exhausted p)) := fun i p hp hi hx ⟨k4, kn, k1, k2, ka⟩ => by
        refine ⟨p, k4, hp, ⟨_, ⟨i, hi, ka, hx, rfl⟩, by rw [get_set_ne _ (by omega)]; exact k1, by rw [get_set_ne _ (by omega)]; exact k2⟩, by rw [get_set_ne _ (by omega), nW _ (by omega) (by omega) (by omega) (by omega)]; exact gd, by rw [next_set]; omega, ⟨by rw [next_set]; have := e1.le; omega, fun j hj => by rw [get_set_ne _ (by omega), nW _ (by omega) (by omega) (by omega) (by omega)]; exact e1.old j hj⟩⟩
      rcases r with ⟨W, ⟨f, rfl⟩, _⟩ | ⟨W, ⟨⟨i, hi, hx, f⟩, rfl⟩, _⟩
      · exact fin M.length none (.inl rfl) (Nat.le_refl _) (fun y hy => by rw [List.getElem?_eq_none (Nat.le_refl _)] at hy; cases hy) f
      · exact fin i (some (.exit 0)) (.inr rfl) hi hx f
  · rintro h' ⟨_, ⟨⟨⟨sk, sd, si⟩, sb⟩, fs, k1, k2⟩, k3, hn, xx⟩
    unfold rE at k1 ⊢
    simp only at k1 k2
    simp (maxSteps := 1000000) (disch := first | decide | omega | (simp only [go_sem]; first | done | omega)) only [go_sem, Int.reduceToNat, Nat.reduceMul, Nat.reduceAdd, Nat.reduceSub, k1, k2]
    rw [EU_bad _ _ rfl, EC_tab (tab := [(false, none), (false, (some (0, 1))), (true, none), (true, none)]) (by kernel_rfl)]
    simp (maxSteps := 1000000) (disch := first | decide | omega | (simp only [go_sem]; first | done | omega)) only [go_sem, Int.reduceToNat, Nat.reduceMul, Nat.reduceAdd, Nat.reduceSub, ↓EU_region, ↓EU_draw, k1, k2]
    have k3' : ((h'.set (h.next + 1) (.cells [.int .i64 sk, .int .i64 sd, .int .i64 si] 0)).set (h.next + 1 + 1) (.cells [.bool sb] 0)).get h1.next = .defd := by rw [get_set_ne _ (by omega), get_set_ne _ (by omega)]; exact k3
    have xx' : Ext h (((h'.set (h.next + 1) (.cells [.int .i64 sk, .int .i64 sd, .int .i64 si] 0)).set (h.next + 1 + 1) (.cells [.bool sb] 0)).set h1.next .dead) := ((xx.set _ _ (by omega)).set _ _ (by omega)).set _ _ (by omega)
    rw [leaveK_dr _ _ _ _ _ k3']
    simp (maxSteps := 1000000) (disch := first | decide | omega | (simp only [go_sem]; first | done | omega)) only [go_sem, Int.reduceToNat, Nat.reduceMul, Nat.reduceAdd, Nat.reduceSub, ↓EU_region, ↓EU_draw]
    exact ⟨⟨_, fs, rfl⟩, xx'⟩
  · rintro c h' ⟨hp, ⟨⟨⟨sk, sd, si⟩, sb⟩, fs, k1, k2⟩, k3, hn, xx⟩
    rcases hp with e | e
    · cases e
    cases e
    unfold rE at k1 ⊢
    simp only at k1 k2
    rw [EC_exit]
    refine ⟨_, rfl, ?_⟩
    simp (maxSteps := 1000000) (disch := first | decide | omega | (simp only [go_sem]; first | done | omega)) only [go_sem, Int.reduceToNat, Nat.reduceMul, Nat.reduceAdd, Nat.reduceSub, k1, k2]
    rw [EU_bad _ _ rfl, EC_tab (tab := [(false, none), (false, (some (0, 1))), (true, none), (true, none)]) (by kernel_rfl)]
    simp (maxSteps := 1000000) (disch := first | decide | omega | (simp only [go_sem]; first | done | omega)) only [go_sem, Int.reduceToNat, Nat.reduceMul, Nat.reduceAdd, Nat.reduceSub, ↓EU_region, ↓EU_draw, k1, k2]
    have k3' : ((h'.set (h.next + 1) (.cells [.int .i64 sk, .int .i64 sd, .int .i64 si] 0)).set (h.next + 1 + 1) (.cells [.bool sb] 0)).get h1.next = .defd := by rw [get_set_ne _ (by omega), get_set_ne _ (by omega)]; exact k3
    have xx' : Ext h (((h'.set (h.next + 1) (.cells [.int .i64 sk, .int .i64 sd, .int .i64 si] 0)).set (h.next + 1 + 1) (.cells [.bool sb] 0)).set h1.next .dead) := ((xx.set _ _ (by omega)).set _ _ (by omega)).set _ _ (by omega)
    rw [leaveK_dr _ _ _ _ _ k3']
    simp (maxSteps := 1000000) (disch := first | decide | omega | (simp only [go_sem]; first | done | omega)) only [go_sem, Int.reduceToNat, Nat.reduceMul, Nat.reduceAdd, Nat.reduceSub, ↓EU_region, ↓EU_draw]
    exact ⟨⟨_, fs, rfl⟩, xx'⟩
end Go.Proofs.Ytbbdhpjkibbnkaa.EV
