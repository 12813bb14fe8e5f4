/- OwedBack, plainly. No condition. -/
import Derived.Test.YtmkfdoomoeiibaaDoorOBack2
import Derived.Test.YtmkfdoomoeiibaaDoorRowItem
namespace Go.Proofs.YtmkfdoomoeiibaaDoor.EV
open Go Go.Proofs
set_option linter.unusedVariables false
set_option linter.unusedSimpArgs false
set_option maxRecDepth 100000
set_option pp.deepTerms false
set_option pp.deepTerms.threshold 20
theorem ord_may : ∀ (l : List Item) (y : Option Item), ordOk y l = true → ∀ x ∈ l, imay x = true
  | [], _, _, x, hx => by cases hx
  | z :: l, y, h, x, hx => by
    have h2 : imay z = true ∧ ordOk (some z) l = true := by
      cases y with
      | none => simpa [ordOk] using h
      | some y =>
        simp only [ordOk, Bool.and_eq_true] at h
        exact ⟨h.1, h.2.2⟩
    rcases List.mem_cons.1 hx with rfl | q
    · exact h2.1
    · exact ord_may l _ h2.2 x q
theorem ord_above : ∀ (l : List Item) (y : Item), ordOk (some y) l = true → ∀ x ∈ l, y.id < x.id
  | [], _, _, x, hx => by cases hx
  | z :: l, y, h, x, hx => by
    simp only [ordOk, Bool.and_eq_true, decide_eq_true_eq] at h
    rcases List.mem_cons.1 hx with rfl | q
    · exact h.2.1
    · have := ord_above l z h.2.2 x q
      omega
theorem ord_pair : ∀ (l : List Item) (y : Option Item), ordOk y l = true → l.Pairwise fun a b => a.id < b.id
  | [], _, _ => .nil
  | z :: l, y, h => by
    have h2 : ordOk (some z) l = true := by
      cases y with
      | none => simp only [ordOk, Bool.and_eq_true] at h; exact h.2
      | some y => simp only [ordOk, Bool.and_eq_true] at h; exact h.2.2
    exact .cons (ord_above l z h2) (ord_pair l _ h2)
theorem good_parts {cur : Int} {l : List Item} (h : goodF cur l = true) : l.length ≤ 64 ∧ (cur = -1 ∨ l.any (byId cur) = true) ∧ ordOk none l = true := by
  unfold goodF at h
  simp only [Bool.and_eq_true, Bool.or_eq_true, decide_eq_true_eq] at h
  exact ⟨h.1, h.2.1, h.2.2.1⟩
theorem back_facts {cur : Int} {l : List Item} {x : Item} (hg : goodF cur l = true) (ha : l.any (byId x.id) = false) (hg2 : goodF cur (srtI (l ++ [x])) = true) :
    (∃ i : Nat, idx (byId x.id) (srtI (l ++ [x])) = (i : Int) ∧ (srtI (l ++ [x]))[i]? = some x ∧ (srtI (l ++ [x])).eraseIdx i = l) ∧ cur ≠ x.id := by
  obtain ⟨_, hc, ho⟩ := good_parts hg
  obtain ⟨_, _, ho2⟩ := good_parts hg2
  have hp := srtI_perm (l ++ [x])
  generalize srtI (l ++ [x]) = L at *
  have hxL : x ∈ L := hp.mem_iff.2 (by simp)
  have hno : ∀ y ∈ l, y.id ≠ x.id := fun y hy e => by
    have := List.any_eq_false.1 ha y hy
    unfold byId at this
    rw [e] at this
    simp at this
  refine ⟨?_, fun e => ?_⟩
  · cases hf : L.findIdx? (byId x.id) with
    | none =>
      rw [List.findIdx?_eq_none_iff] at hf
      have := hf x hxL
      unfold byId at this
      simp at this
    | some i =>
      have h1 := List.findIdx?_eq_some_iff_getElem.1 hf
      obtain ⟨hi, hb, _⟩ := h1
      have hb' : L[i].id = x.id := by unfold byId at hb; exact of_decide_eq_true hb
      have hx : L[i] = x := by
        have hm : L[i] ∈ l ++ [x] := hp.mem_iff.1 (List.getElem_mem hi)
        rcases List.mem_append.1 hm with q | q
        · exact absurd hb' (hno _ q)
        · simpa using q
      refine ⟨i, by unfold idx; rw [hf], by rw [List.getElem?_eq_getElem hi, hx], ?_⟩
      have e2 : L = L.take i ++ x :: L.drop (i + 1) := by rw [← hx, List.getElem_cons_drop, List.take_append_drop]
      have h2 : (x :: L.eraseIdx i).Perm L := by
        rw [List.eraseIdx_eq_take_drop_succ]
        conv => rhs; rw [e2]
        exact List.perm_middle.symm
      have h3 : (l ++ [x]).Perm (x :: l) := List.perm_append_comm
      have h4 : (L.eraseIdx i).Perm l := (List.perm_cons x).1 (h2.trans (hp.trans h3))
      have p1 : (L.eraseIdx i).Pairwise fun a b => a.id < b.id := (ord_pair L none ho2).sublist (List.eraseIdx_sublist L i)
      have p2 := ord_pair l none ho
      exact h4.eq_of_pairwise (le := fun a b => a.id < b.id) (fun a b _ _ q1 q2 => absurd q1 (by omega)) p1 p2
  · rcases hc with q | q
    · have := ord_may L none ho2 x hxL
      unfold imay at this
      simp only [Bool.and_eq_true, decide_eq_true_eq] at this
      omega
    · rw [e, ha] at q; cases q
theorem law_OwedBack (h : Heap) (cf : Int) (wf : (Lit.int .i64 cf).wf = true) (sf : Value) (lf : List Item) (hf : SL itemE 3 h sf lf) (wlf : ∀ z ∈ lf, ItemWf z) (x : Item) (wx : ItemWf x) :
    WPo (EF Tryd.prog O0 5 [formV cf sf, .agg ⟨itemE x⟩] h) fun q => q.1 = .bool true := by
  rw [EF_body (O := O0) (by kernel_rfl) Tryd.func5 rfl (rs := [.tmp 4]) rfl (bad := []) (by kernel_rfl) _ _ (m := 79) rfl]
  obtain ⟨af, kf, hv⟩ := hf.val
  subst hv
  unfold formV
  simp only [itemE]
  simp (maxSteps := 1000000) (disch := first | decide | omega | (simp only [go_sem]; first | done | omega)) only [go_sem, Int.reduceToNat, Nat.reduceMul, Nat.reduceAdd, Nat.reduceSub, ↓EU_region, ↓EU_draw, awake_ev]
  have x0 : Ext h ((h.push (.cells [.int .i64 cf, .slice af lf.length kf] 0)).push (.cells [.int .i64 x.id, .int .i64 x.w, .int .i64 x.lag] 0)) := by repeat (first | exact Ext.refl _ | assumption | refine Ext.push ?_ _ | refine Ext.set ?_ _ _ (by first | omega | (simp only [next_push, next_set]; omega)))
  have g0 : ((h.push (.cells [.int .i64 cf, .slice af lf.length kf] 0)).push (.cells [.int .i64 x.id, .int .i64 x.w, .int .i64 x.lag] 0)).get h.next = .cells [.int .i64 cf, .slice af lf.length kf] 0 := by simp (maxSteps := 1000000) (disch := first | decide | omega | (simp only [go_sem]; first | done | omega)) only [go_sem, Int.reduceToNat, Nat.reduceMul, Nat.reduceAdd, Nat.reduceSub, ↓EU_region, ↓EU_draw]
  have g1 : ((h.push (.cells [.int .i64 cf, .slice af lf.length kf] 0)).push (.cells [.int .i64 x.id, .int .i64 x.w, .int .i64 x.lag] 0)).get (h.next + 1) = .cells [.int .i64 x.id, .int .i64 x.w, .int .i64 x.lag] 0 := by simp (maxSteps := 1000000) (disch := first | decide | omega | (simp only [go_sem]; first | done | omega)) only [go_sem, Int.reduceToNat, Nat.reduceMul, Nat.reduceAdd, Nat.reduceSub, ↓EU_region, ↓EU_draw]
  have n1 : ((h.push (.cells [.int .i64 cf, .slice af lf.length kf] 0)).push (.cells [.int .i64 x.id, .int .i64 x.w, .int .i64 x.lag] 0)).next = h.next + 1 + 1 := by simp (maxSteps := 1000000) (disch := first | decide | omega | (simp only [go_sem]; first | done | omega)) only [go_sem, Int.reduceToNat, Nat.reduceMul, Nat.reduceAdd, Nat.reduceSub, ↓EU_region, ↓EU_draw]
  generalize ((h.push (.cells [.int .i64 cf, .slice af lf.length kf] 0)).push (.cells [.int .i64 x.id, .int .i64 x.w, .int .i64 x.lag] 0)) = hb at *
  by_cases q0 : lf.length > 64
  · have d0 : decide ((lf.length : Int) > 64) = true := decide_eq_true (by omega)
    simp (maxSteps := 1000000) (disch := first | decide | omega | (simp only [go_sem]; first | done | omega)) only [go_sem, Int.reduceToNat, Nat.reduceMul, Nat.reduceAdd, Nat.reduceSub, ↓EU_region, ↓EU_draw, d0]
  have d0 : decide ((lf.length : Int) > 64) = false := decide_eq_false (by omega)
  have hG := good_ev cf lf _ hb (hf.ext x0) (by omega)
  unfold formV at hG
  simp (maxSteps := 1000000) (disch := first | decide | omega | (simp only [go_sem]; first | done | omega)) only [go_sem, Int.reduceToNat, Nat.reduceMul, Nat.reduceAdd, Nat.reduceSub, ↓EU_region, ↓EU_draw, d0, g0]
  repeat refine WPo_ob ?_
  refine hG.bind fun h1 x1 => ?_
  cases hg : goodF cf lf with
  | false => simp (maxSteps := 1000000) (disch := first | decide | omega | (simp only [go_sem]; first | done | omega)) only [go_sem, Int.reduceToNat, Nat.reduceMul, Nat.reduceAdd, Nat.reduceSub, ↓EU_region, ↓EU_draw]
  | true =>
    have hn1 := x1.le
    have y1 : Ext h h1 := x0.trans x1
    have o0 : h1.get h.next = .cells [.int .i64 cf, .slice af lf.length kf] 0 := by rw [x1.old _ (by omega)]; exact g0
    have o1 : h1.get (h.next + 1) = .cells [.int .i64 x.id, .int .i64 x.w, .int .i64 x.lag] 0 := by rw [x1.old _ (by omega)]; exact g1
    have hP := put_ev cf lf _ x h1 (hf.ext y1) (by omega) hg
    unfold formV at hP
    simp only [itemE] at hP
    simp (maxSteps := 1000000) (disch := first | decide | omega | (simp only [go_sem]; first | done | omega)) only [go_sem, Int.reduceToNat, Nat.reduceMul, Nat.reduceAdd, Nat.reduceSub, ↓EU_region, ↓EU_draw, o0, o1]
    repeat refine WPo_ob ?_
    refine hP.mono ?_
    rintro ⟨v2, h2⟩ ⟨x2, e2⟩
    simp only at x2 e2
    have hn2 := x2.le
    have y2 : Ext h h2 := y1.trans x2
    have p0 : h2.get h.next = .cells [.int .i64 cf, .slice af lf.length kf] 0 := by rw [x2.old _ (by omega)]; exact o0
    have p1 : h2.get (h.next + 1) = .cells [.int .i64 x.id, .int .i64 x.w, .int .i64 x.lag] 0 := by rw [x2.old _ (by omega)]; exact o1
    rcases e2 with rfl | rfl | ⟨hany, hg2, v, rfl, o2⟩
    · simp (maxSteps := 1000000) (disch := first | decide | omega | (simp only [go_sem]; first | done | omega)) only [go_sem, Int.reduceToNat, Nat.reduceMul, Nat.reduceAdd, Nat.reduceSub, ↓EU_region, ↓EU_draw, dec_t, dec_f]
    · simp (maxSteps := 1000000) (disch := first | decide | omega | (simp only [go_sem]; first | done | omega)) only [go_sem, Int.reduceToNat, Nat.reduceMul, Nat.reduceAdd, Nat.reduceSub, ↓EU_region, ↓EU_draw, dec_t, dec_f]
    · obtain ⟨⟨i, hi, hx, hE⟩, hne⟩ := back_facts hg hany hg2
      have hLl : (srtI (lf ++ [x])).length = lf.length + 1 := by rw [srtI_len, List.length_append]; rfl
      generalize srtI (lf ++ [x]) = L at *
      obtain ⟨a2, k2, rfl⟩ := o2.val
      have z0 : (h2.push (.cells [.int .i64 cf, .slice a2 L.length k2] 0)).get h.next = .cells [.int .i64 cf, .slice af lf.length kf] 0 := by rw [get_push_old _ (by omega)]; exact p0
      have z1 : (h2.push (.cells [.int .i64 cf, .slice a2 L.length k2] 0)).get (h.next + 1) = .cells [.int .i64 x.id, .int .i64 x.w, .int .i64 x.lag] 0 := by rw [get_push_old _ (by omega)]; exact p1
      have z2 : (h2.push (.cells [.int .i64 cf, .slice a2 L.length k2] 0)).get h2.next = .cells [.int .i64 cf, .slice a2 L.length k2] 0 := get_push_new _ _
      have n3 : (h2.push (.cells [.int .i64 cf, .slice a2 L.length k2] 0)).next = h2.next + 1 := next_push _ _
      have o3 := o2.ext ((Ext.refl h2).push (.cells [.int .i64 cf, .slice a2 L.length k2] 0))
      have y3 : Ext h (h2.push (.cells [.int .i64 cf, .slice a2 L.length k2] 0)) := y2.push _
      simp (maxSteps := 1000000) (disch := first | decide | omega | (simp only [go_sem]; first | done | omega)) only [go_sem, Int.reduceToNat, Nat.reduceMul, Nat.reduceAdd, Nat.reduceSub, ↓EU_region, ↓EU_draw, dec_t, dec_f, z0, z1, z2]
      generalize h2.push (.cells [.int .i64 cf, .slice a2 L.length k2] 0) = h3 at *
      have hD := drop_ev cf L _ x.id h3 o3.sl (by omega) hg2 i x hi hx
      rw [if_neg hne, hE] at hD
      unfold formV at hD
      repeat refine WPo_ob ?_
      refine hD.mono ?_
      rintro ⟨v4, h4⟩ ⟨x4, v, e4, o4⟩
      simp only at x4 e4 o4
      subst e4
      have hn4 := x4.le
      obtain ⟨a4, k4, rfl⟩ := o4.val
      have y4 : Ext h h4 := y3.trans x4
      have w0 : (h4.push (.cells [.int .i64 cf, .slice a4 lf.length k4] 0)).get h.next = .cells [.int .i64 cf, .slice af lf.length kf] 0 := by rw [get_push_old _ (by omega), x4.old _ (by omega)]; exact z0
      have w1 : (h4.push (.cells [.int .i64 cf, .slice a4 lf.length k4] 0)).get (h.next + 1) = .cells [.int .i64 x.id, .int .i64 x.w, .int .i64 x.lag] 0 := by rw [get_push_old _ (by omega), x4.old _ (by omega)]; exact z1
      have w2 : (h4.push (.cells [.int .i64 cf, .slice a4 lf.length k4] 0)).get h2.next = .cells [.int .i64 cf, .slice a2 L.length k2] 0 := by rw [get_push_old _ (by omega), x4.old _ (by omega)]; exact z2
      have w3 : (h4.push (.cells [.int .i64 cf, .slice a4 lf.length k4] 0)).get h4.next = .cells [.int .i64 cf, .slice a4 lf.length k4] 0 := get_push_new _ _
      have n5 : (h4.push (.cells [.int .i64 cf, .slice a4 lf.length k4] 0)).next = h4.next + 1 := next_push _ _
      have o5 := o4.ext ((Ext.refl h4).push (.cells [.int .i64 cf, .slice a4 lf.length k4] 0))
      have o5' := (o3.ext x4).ext ((Ext.refl h4).push (.cells [.int .i64 cf, .slice a4 lf.length k4] 0))
      have y5 : Ext h (h4.push (.cells [.int .i64 cf, .slice a4 lf.length k4] 0)) := y4.push _
      simp (maxSteps := 1000000) (disch := first | decide | omega | (simp only [go_sem]; first | done | omega)) only [go_sem, Int.reduceToNat, Nat.reduceMul, Nat.reduceAdd, Nat.reduceSub, ↓EU_region, ↓EU_draw, w0, w1, w2, w3]
      generalize h4.push (.cells [.int .i64 cf, .slice a4 lf.length k4] 0) = h5 at *
      have hFi := ofind_ev cf L _ x.id h5 o5'.sl (by omega) i x hi hx
      unfold formV at hFi
      simp only [itemE] at hFi
      repeat refine WPo_ob ?_
      refine hFi.bind fun h6 x6 => ?_
      have hn6 := x6.le
      have r0 : (h6.push (.cells [.int .i64 x.id, .int .i64 x.w, .int .i64 x.lag] 0)).get h.next = .cells [.int .i64 cf, .slice af lf.length kf] 0 := by rw [get_push_old _ (by omega), x6.old _ (by omega)]; exact w0
      have r1 : (h6.push (.cells [.int .i64 x.id, .int .i64 x.w, .int .i64 x.lag] 0)).get (h.next + 1) = .cells [.int .i64 x.id, .int .i64 x.w, .int .i64 x.lag] 0 := by rw [get_push_old _ (by omega), x6.old _ (by omega)]; exact w1
      have r2 : (h6.push (.cells [.int .i64 x.id, .int .i64 x.w, .int .i64 x.lag] 0)).get h2.next = .cells [.int .i64 cf, .slice a2 L.length k2] 0 := by rw [get_push_old _ (by omega), x6.old _ (by omega)]; exact w2
      have r3 : (h6.push (.cells [.int .i64 x.id, .int .i64 x.w, .int .i64 x.lag] 0)).get h4.next = .cells [.int .i64 cf, .slice a4 lf.length k4] 0 := by rw [get_push_old _ (by omega), x6.old _ (by omega)]; exact w3
      have r4 : (h6.push (.cells [.int .i64 x.id, .int .i64 x.w, .int .i64 x.lag] 0)).get h6.next = .cells [.int .i64 x.id, .int .i64 x.w, .int .i64 x.lag] 0 := get_push_new _ _
      have y7 : Ext h (h6.push (.cells [.int .i64 x.id, .int .i64 x.w, .int .i64 x.lag] 0)) := (y5.trans x6).push _
      have x7 : Ext h5 (h6.push (.cells [.int .i64 x.id, .int .i64 x.w, .int .i64 x.lag] 0)) := x6.push _
      have hn7 : (h6.push (.cells [.int .i64 x.id, .int .i64 x.w, .int .i64 x.lag] 0)).next = h6.next + 1 := next_push _ _
      have hS := same_ev cf cf lf lf _ _ _ (o5.ext x7).sl (hf.ext y7) (by omega)
      rw [decide_eq_true rfl, decide_eq_true rfl] at hS
      unfold formV at hS
      simp (maxSteps := 1000000) (disch := first | decide | omega | (simp only [go_sem]; first | done | omega)) only [go_sem, Int.reduceToNat, Nat.reduceMul, Nat.reduceAdd, Nat.reduceSub, ↓EU_region, ↓EU_draw, dec_t, dec_f, r0, r1, r2, r3, r4]
      generalize h6.push (.cells [.int .i64 x.id, .int .i64 x.w, .int .i64 x.lag] 0) = h7 at *
      repeat refine WPo_ob ?_
      refine hS.bind fun h8 x8 => ?_
      have s0 : h8.get h.next = .cells [.int .i64 cf, .slice af lf.length kf] 0 := by rw [x8.old _ (by omega)]; exact r0
      have s1 : h8.get (h.next + 1) = .cells [.int .i64 x.id, .int .i64 x.w, .int .i64 x.lag] 0 := by rw [x8.old _ (by omega)]; exact r1
      have s2 : h8.get h2.next = .cells [.int .i64 cf, .slice a2 L.length k2] 0 := by rw [x8.old _ (by omega)]; exact r2
      have s4 : h8.get h6.next = .cells [.int .i64 x.id, .int .i64 x.w, .int .i64 x.lag] 0 := by rw [x8.old _ (by omega)]; exact r4
      have hG2 := good_ev cf L _ h8 ((o5'.ext x7).ext x8).sl (by omega)
      rw [hg2] at hG2
      unfold formV at hG2
      have ie : ∀ (p q : Operand), evBin Tryd.prog .eql 30 p q (.agg ⟨[.int .i64 x.id, .int .i64 x.w, .int .i64 x.lag]⟩) (.agg ⟨[.int .i64 x.id, .int .i64 x.w, .int .i64 x.lag]⟩) = some (.bool true) := fun p q => by
        have := item_eql p q x x
        rw [(itemEq_iff x x).2 rfl] at this
        exact this
      simp (maxSteps := 1000000) (disch := first | decide | omega | (simp only [go_sem]; first | done | omega)) only [go_sem, Int.reduceToNat, Nat.reduceMul, Nat.reduceAdd, Nat.reduceSub, ↓EU_region, ↓EU_draw, s0, s1, s2, s4, ie]
      repeat refine WPo_ob ?_
      refine hG2.bind fun h9 x9 => ?_
      have hn8 := x8.le
      have t0 : h9.get h.next = .cells [.int .i64 cf, .slice af lf.length kf] 0 := by rw [x9.old _ (by omega)]; exact s0
      have t2 : h9.get h2.next = .cells [.int .i64 cf, .slice a2 L.length k2] 0 := by rw [x9.old _ (by omega)]; exact s2
      have hw : wrapF .i64 ((lf.length : Int) + 1) = (L.length : Int) := by rw [wrap64 (by omega)]; omega
      have dt : ∀ x : Int, decide (x = x) = true := fun x => decide_eq_true rfl
      simp (maxSteps := 1000000) (disch := first | decide | omega | (simp only [go_sem]; first | done | omega)) only [go_sem, Int.reduceToNat, Nat.reduceMul, Nat.reduceAdd, Nat.reduceSub, ↓EU_region, ↓EU_draw, t0, t2, hw, dt]
end Go.Proofs.YtmkfdoomoeiibaaDoor.EV
