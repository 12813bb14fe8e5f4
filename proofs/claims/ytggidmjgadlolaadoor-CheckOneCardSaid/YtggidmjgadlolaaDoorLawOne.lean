/- CheckOne, plainly. No condition. -/
import Derived.Test.YtggidmjgadlolaaDoorLawNone
import Derived.Test.YtggidmjgadlolaaDoorQuo
namespace Go.Proofs.YtggidmjgadlolaaDoor.EV
open Go Go.Proofs
set_option linter.unusedVariables false
set_option linter.unusedSimpArgs false
set_option maxRecDepth 100000
set_option pp.deepTerms false
set_option pp.deepTerms.threshold 20
/-- one turned, of a form in order: just that is told -/
theorem ord_split {A B : List Item} {x : Item} (h : Ord (A ++ x :: B)) : (∀ a ∈ A, a.id < x.id) ∧ ∀ b ∈ B, x.id < b.id := by
  have h1 := List.pairwise_append.1 h
  exact ⟨fun a ha => h1.2.2 a ha x (List.mem_cons_self ..), fun b hb => (List.pairwise_cons.1 h1.2.1).1 b hb⟩
theorem ord_turn {A B : List Item} {x y : Item} (h : Ord (A ++ x :: B)) (e : y.id = x.id) : Ord (A ++ y :: B) := by
  obtain ⟨h1, h2, h3⟩ := List.pairwise_append.1 h
  obtain ⟨h4, h5⟩ := List.pairwise_cons.1 h2
  refine List.pairwise_append.2 ⟨h1, List.pairwise_cons.2 ⟨fun b hb => by rw [e]; exact h4 b hb, h5⟩, fun a ha b hb => ?_⟩
  rcases List.mem_cons.1 hb with rfl | hb
  · rw [e]; exact h3 a ha x (List.mem_cons_self ..)
  · exact h3 a ha b (List.mem_cons_of_mem _ hb)
theorem diff_turn {A B : List Item} {x y : Item} (h : Ord (A ++ x :: B)) (e : y.id = x.id) (c1 c2 : Int) :
    diffF c1 (A ++ y :: B) c2 (A ++ x :: B) = (ifF (!decide (y.w = x.w)) ⟨10, x.id⟩ ++ ifF (!decide (y.lag = x.lag)) ⟨11, x.id⟩) ++ ifF (!decide (c1 = c2)) ⟨12, c1⟩ := by
  have ho := ord_turn h e
  have hin : ∀ z, z ∈ A ∨ z ∈ B → wantF (A ++ y :: B) z = [] := fun z hz => by
    have hz' : z ∈ A ++ y :: B := by
      rw [List.mem_append, List.mem_cons]
      exact hz.imp id .inr
    exact wantF_nil.2 (.inl ⟨hz', (fndR_of ho hz').2⟩)
  have hgot : (A ++ y :: B).flatMap (gotF (A ++ x :: B)) = [] := by
    rw [flat_nil]
    intro z hz
    unfold gotF
    rw [ifF_nil, Bool.not_eq_false']
    rcases List.mem_append.1 hz with q | q
    · exact any_id.2 ⟨z, List.mem_append_left _ q, rfl⟩
    · rcases List.mem_cons.1 q with rfl | q
      · exact any_id.2 ⟨x, List.mem_append_right _ (List.mem_cons_self ..), e.symm⟩
      · exact any_id.2 ⟨z, List.mem_append_right _ (List.mem_cons_of_mem _ q), rfl⟩
  have hx : wantF (A ++ y :: B) x = ifF (!decide (y.w = x.w)) ⟨10, x.id⟩ ++ ifF (!decide (y.lag = x.lag)) ⟨11, x.id⟩ := by
    have := fndR_of ho (show y ∈ A ++ y :: B from List.mem_append_right _ (List.mem_cons_self ..))
    rw [e] at this
    unfold wantF
    rw [this.1, if_pos rfl, this.2]
  unfold diffF
  rw [hgot, List.append_nil, List.flatMap_append, List.flatMap_cons, flat_nil.2 fun z hz => hin z (.inl hz), flat_nil.2 fun z hz => hin z (.inr hz), hx, List.nil_append, List.append_nil]
theorem faults_turn {A B : List Item} {x y : Item} {c1 c2 : Int} (hg : goodF c1 (A ++ y :: B) = true) (h : goodF c2 (A ++ x :: B) = true) (e : y.id = x.id) :
    faultsF c1 (A ++ y :: B) c2 (A ++ x :: B) = (ifF (!decide (y.w = x.w)) ⟨10, x.id⟩ ++ ifF (!decide (y.lag = x.lag)) ⟨11, x.id⟩) ++ ifF (!decide (c1 = c2)) ⟨12, c1⟩ := by
  unfold faultsF
  rw [(formF_nil c1 _).2 hg, if_neg (by simp)]
  exact diff_turn (good_ord h) e c1 c2
theorem ordOk_may : ∀ (p : Option Item) (l : List Item), ordOk p l = true → ∀ x ∈ l, imay x = true
  | _, [], _, x, hx => by cases hx
  | none, a :: l, h, x, hx => by
    simp only [ordOk, Bool.and_eq_true] at h
    rcases List.mem_cons.1 hx with rfl | hx
    · exact h.1
    · exact ordOk_may _ l h.2 x hx
  | some y, a :: l, h, x, hx => by
    simp only [ordOk, Bool.and_eq_true] at h
    rcases List.mem_cons.1 hx with rfl | hx
    · exact h.1
    · exact ordOk_may _ l h.2.2 x hx
theorem good_may {c : Int} {l : List Item} (h : goodF c l = true) : ∀ x ∈ l, imay x = true := by
  unfold goodF at h
  simp only [Bool.and_eq_true] at h
  exact ordOk_may none l h.2.2.1
theorem imay_lag {x : Item} (h : imay x = true) : -1125899906842624 ≤ x.lag ∧ x.lag ≤ 1125899906842624 ∧ 1 ≤ x.w ∧ x.w ≤ 20 := by
  unfold imay wgood at h
  simp only [Bool.and_eq_true, decide_eq_true_eq] at h
  exact ⟨h.2.2.2.1, h.2.2.2.2, h.2.2.1.1, h.2.2.1.2⟩
theorem tmod_lt (a : Int) : -1000 < a.tmod 1000 ∧ a.tmod 1000 < 1000 := by
  have h1 := Int.tmod_lt_of_pos a (show (0 : Int) < 1000 by decide)
  have h2 := Int.tmod_lt_of_pos (-a) (show (0 : Int) < 1000 by decide)
  rw [Int.neg_tmod] at h2
  omega
theorem tmod20 {a : Int} (h : 1 ≤ a ∧ a ≤ 20) : 0 ≤ a.tmod 20 ∧ a.tmod 20 < 20 := by
  have h1 := Int.tmod_lt_of_pos a (show (0 : Int) < 20 by decide)
  have h2 := Int.tmod_nonneg 20 (show 0 ≤ a by omega)
  omega
theorem set3_splice {cs : List Value} {k j : Nat} {e : List Value} {c' : Value} (he : e.length = 3) (h : (cs.drop k).take 3 = e) (hj : j < 3) : splice cs k (e.set j c') = cs.set (k + j) c' := by
  have hlen : k + 3 ≤ cs.length := by
    have := congrArg List.length h
    rw [List.length_take, List.length_drop, he] at this
    omega
  have hh : ∀ i, i < 3 → cs[k + i]? = e[i]? := fun i hi => by
    rw [← h, List.getElem?_take_of_lt hi, List.getElem?_drop]
  apply List.ext_getElem?
  intro i
  rw [splice_get (by rw [List.length_set, he]; omega), List.getElem?_set, List.length_set, he]
  by_cases q : k ≤ i ∧ i < k + 3
  · rw [if_pos q]
    obtain ⟨m, rfl⟩ : ∃ m, i = k + m := ⟨i - k, by omega⟩
    rw [Nat.add_sub_cancel_left, List.getElem?_set]
    by_cases q2 : j = m
    · subst q2
      rw [if_pos rfl, if_pos rfl, if_pos (by omega), if_pos (by omega)]
    · rw [if_neg q2, if_neg (by omega), hh m (by omega)]
  · rw [if_neg q, List.getElem?_set, if_neg (by omega)]
theorem OW.put3 {h : Heap} {v : Value} {l : List Item} (s : OW itemE 3 h v l) (i j : Nat) (t u : Item) (c' : Value) (hi : l[i]? = some t) (hj : j < 3) (hu : itemE u = (itemE t).set j c') : ∃ b o c cs, v = .slice (some ⟨b, o, none⟩) l.length c ∧ b < h.next ∧ h.get b = .cells cs 3 ∧ o + i * 3 + 3 ≤ cs.length ∧ (∀ (j : Nat) (y : Value), (itemE t)[j]? = some y → cs[o + i * 3 + j]? = some y) ∧ OW itemE 3 (h.set b (.cells (cs.set (o + i * 3 + j) c') 3)) v (l.set i u) := by
  have hl' := (List.getElem?_eq_some_iff.1 hi).1
  obtain ⟨b, o, c, cs, rfl, hb, hc, hl, hp⟩ := s.put itemE_len i u hl'
  obtain ⟨b', o', c', e, _, hrd, hr⟩ := s.sl.at hi rfl
  cases e
  rw [hc] at hrd
  refine ⟨b, o, c, cs, rfl, hb, hc, hl, fun j y hj => ?_, ?_⟩
  · have := hr j y hj
    rw [hc, rdc1_c] at this
    exact this
  · rw [rdc_of rfl _ _ hl] at hrd
    have := set3_splice (j := j) (c' := c') (itemE_len t) (Option.some.inj hrd) hj
    rw [hu, this] at hp
    exact hp
theorem set_split {l : List Item} {i : Nat} {x : Item} (hx : l[i]? = some x) (y : Item) : l = l.take i ++ x :: l.drop (i + 1) ∧ l.set i y = l.take i ++ y :: l.drop (i + 1) := by
  have hi := (List.getElem?_eq_some_iff.1 hx).1
  refine ⟨?_, ?_⟩
  · rw [← drop_at hx, List.take_append_drop]
  · rw [List.set_eq_take_append_cons_drop, if_pos hi]
theorem law_CheckOne (h : Heap) (cf : Int) (wf : (Lit.int .i64 cf).wf = true) (sf : Value) (lf : List Item) (hf : SL itemE 3 h sf lf) (wlf : ∀ z ∈ lf, ItemWf z) (at_ : Int) (wat : (Lit.int .i64 at_).wf = true) (what : Int) (wwh : (Lit.int .i64 what).wf = true) (by_ : Int) (wby : (Lit.int .i64 by_).wf = true) :
    WPo (EF Tryd.prog O0 5 [formV cf sf, .int .i64 at_, .int .i64 what, .int .i64 by_] h) fun q => q.1 = .bool true := by
  rw [EF_body (O := O0) (by kernel_rfl) Tryd.func5 rfl (rs := [.tmp 8]) rfl (bad := [5]) (by kernel_rfl) _ _ (m := 142) rfl]
  obtain ⟨af, kf, hv⟩ := hf.val
  subst hv
  unfold formV
  simp (maxSteps := 1000000) (disch := first | decide | omega | (simp only [go_sem]; first | done | omega)) only [go_sem, Int.reduceToNat, Nat.reduceMul, Nat.reduceAdd, Nat.reduceSub, ↓EU_region, ↓EU_draw, awake_ev]
  ((repeat refine WPo_ob ?_); (first | refine WPo_cond (fun b1 => ?_) (fun b1 => ?_) | refine WPo_gard (fun b1 => ?_) (fun b1 => ?_) | refine WPo_gardT (fun b1 => ?_) (fun b1 => ?_)) <;> (try simp only [Bool.not_eq_true', Bool.not_eq_false'] at b1))
  · have b1' := b1
    simp only [decide_eq_false_iff_not] at b1'
    have x0 : Ext h (h.push (.cells [.int .i64 cf, .slice af lf.length kf] 0)) := (Ext.refl h).push _
    have p1 := good_ev cf lf _ _ (hf.ext x0) (by omega)
    unfold formV at p1
    simp (maxSteps := 1000000) (disch := first | decide | omega | (simp only [go_sem]; first | done | omega)) only [go_sem, Int.reduceToNat, Nat.reduceMul, Nat.reduceAdd, Nat.reduceSub, ↓EU_region, ↓EU_draw, b1]
    repeat refine WPo_ob ?_
    refine p1.bind fun h1 x1 => ?_
    have hn1 := x1.le
    simp only [next_push] at hn1
    have o1 : h1.get h.next = .cells [.int .i64 cf, .slice af lf.length kf] 0 := by simp (maxSteps := 1000000) (disch := first | decide | omega | (simp only [go_sem]; first | done | omega)) only [go_sem, Int.reduceToNat, Nat.reduceMul, Nat.reduceAdd, Nat.reduceSub, ↓EU_region, ↓EU_draw, x1.old]
    have y1 : Ext h h1 := x0.trans x1
    cases hG : goodF cf lf with
    | false => simp (maxSteps := 1000000) (disch := first | decide | omega | (simp only [go_sem]; first | done | omega)) only [go_sem, Int.reduceToNat, Nat.reduceMul, Nat.reduceAdd, Nat.reduceSub, ↓EU_region, ↓EU_draw]
    | true =>
      simp (maxSteps := 1000000) (disch := first | decide | omega | (simp only [go_sem]; first | done | omega)) only [go_sem, Int.reduceToNat, Nat.reduceMul, Nat.reduceAdd, Nat.reduceSub, ↓EU_region, ↓EU_draw, o1]
      ((repeat refine WPo_ob ?_); (first | refine WPo_cond (fun b2 => ?_) (fun b2 => ?_) | refine WPo_gard (fun b2 => ?_) (fun b2 => ?_) | refine WPo_gardT (fun b2 => ?_) (fun b2 => ?_)) <;> (try simp only [Bool.not_eq_true', Bool.not_eq_false'] at b2))
      · have b2' := b2
        simp only [decide_eq_false_iff_not] at b2'
        simp (maxSteps := 1000000) (disch := first | decide | omega | (simp only [go_sem]; first | done | omega)) only [go_sem, Int.reduceToNat, Nat.reduceMul, Nat.reduceAdd, Nat.reduceSub, ↓EU_region, ↓EU_draw, b2, o1]
        ((repeat refine WPo_ob ?_); (first | refine WPo_cond (fun b3 => ?_) (fun b3 => ?_) | refine WPo_gard (fun b3 => ?_) (fun b3 => ?_) | refine WPo_gardT (fun b3 => ?_) (fun b3 => ?_)) <;> (try simp only [Bool.not_eq_true', Bool.not_eq_false'] at b3))
        · have b3' := b3
          simp only [decide_eq_false_iff_not] at b3'
          simp (maxSteps := 1000000) (disch := first | decide | omega | (simp only [go_sem]; first | done | omega)) only [go_sem, Int.reduceToNat, Nat.reduceMul, Nat.reduceAdd, Nat.reduceSub, b3, o1]
          ((repeat refine WPo_ob ?_); (first | refine WPo_cond (fun b4 => ?_) (fun b4 => ?_) | refine WPo_gard (fun b4 => ?_) (fun b4 => ?_) | refine WPo_gardT (fun b4 => ?_) (fun b4 => ?_)) <;> (try simp only [Bool.not_eq_true', Bool.not_eq_false'] at b4))
          · simp (maxSteps := 1000000) (disch := first | decide | omega | (simp only [go_sem]; first | done | omega)) only [go_sem, Int.reduceToNat, Nat.reduceMul, Nat.reduceAdd, Nat.reduceSub, ↓EU_region, ↓EU_draw, b4]
          · have b4' := b4
            simp only [decide_eq_false_iff_not] at b4'
            simp (maxSteps := 1000000) (disch := first | decide | omega | (simp only [go_sem]; first | done | omega)) only [go_sem, Int.reduceToNat, Nat.reduceMul, Nat.reduceAdd, Nat.reduceSub, b4, o1]
            rw [EU_bad _ _ rfl, EC_tabC (ix := [0, 1, 3, 4, 2, 5, 6, 7, 8]) (tab := [(false, none), (false, (some (0, 3))), (false, none), (false, (some (0, 1))), (true, none), (true, none), (false, none), (true, none), (true, none)]) (by kernel_rfl)]; simp only [permO_n, permO_c, nthO_z, nthO_s]
            obtain ⟨i, rfl⟩ := Int.eq_ofNat_of_zero_le (show 0 ≤ at_ by omega)
            have hi : i < lf.length := by omega
            obtain ⟨x, hx⟩ : ∃ x, lf[i]? = some x := ⟨_, List.getElem?_eq_getElem hi⟩
            have hmay := imay_lag (good_may hG x (List.mem_of_getElem? hx))
            have hnil : OW itemE 3 (h1.push (.cells [] 3)) (.slice (some ⟨h1.next, 0, none⟩) 0 1) [] := OW.lit itemE_len h1 []
            have o1p : (h1.push (.cells [] 3)).get h.next = .cells [.int .i64 cf, .slice af lf.length kf] 0 := by rw [get_push_old _ (by omega)]; exact o1
            simp (maxSteps := 1000000) (disch := first | decide | omega | (simp only [go_sem]; first | done | omega)) only [go_sem, Int.reduceToNat, Nat.reduceMul, Nat.reduceAdd, Nat.reduceSub, o1, o1p]
            repeat refine WPo_ob ?_
            refine append_gr (l := []) (l' := lf) fc_ap_27_27 itemE_len (by decide) itemE_scal hnil (hf.ext (y1.push _)) (by simp only [List.length_nil]; omega) (by simp only [List.length_nil]; omega) fun v' h5 hov5 gr5 => ?_
            obtain ⟨x5, f5⟩ := gr5.new
            rw [List.nil_append] at hov5
            have hn5 := x5.le
            have o5 : h5.get h.next = .cells [.int .i64 cf, .slice af lf.length kf] 0 := (x5.old _ (by omega)).trans o1
            have o5p : (h5.push (.cells [.int .i64 0, .slice none 0 1] 0)).get h.next = .cells [.int .i64 cf, .slice af lf.length kf] 0 := by rw [get_push_old _ (by omega)]; exact o5
            have vf := hf.veq'
            obtain ⟨b5, c5, rfl⟩ := hov5.val
            have y5 : Ext h h5 := y1.trans x5
            simp (maxSteps := 1000000) (disch := first | decide | omega | (simp only [go_sem]; first | done | omega)) only [go_sem, Int.reduceToNat, Nat.reduceMul, Nat.reduceAdd, Nat.reduceSub, o1, o1p, o5, o5p, vf]
            (first | rw [EU_region] | rw [EU_draw _ _ rfl]); simp (maxSteps := 1000000) (disch := first | decide | omega | (simp only [go_sem]; first | done | omega)) only [go_sem, Int.reduceToNat, Nat.reduceMul, Nat.reduceAdd, Nat.reduceSub]
            refine WPo_ob ?_
            have o6 : (h5.push (.cells [.int .i64 cf, .slice b5 lf.length c5] 0)).get h.next = .cells [.int .i64 cf, .slice af lf.length kf] 0 := by rw [get_push_old _ (by omega)]; exact o5
            have g6 : (h5.push (.cells [.int .i64 cf, .slice b5 lf.length c5] 0)).get h5.next = .cells [.int .i64 cf, .slice b5 lf.length c5] 0 := get_push_new _ _
            have hov6 := hov5.ext ((Ext.refl h5).push (.cells [.int .i64 cf, .slice b5 lf.length c5] 0))
            have y6 : Ext h (h5.push (.cells [.int .i64 cf, .slice b5 lf.length c5] 0)) := y5.push _
            have n6 : (h5.push (.cells [.int .i64 cf, .slice b5 lf.length c5] 0)).next = h5.next + 1 := next_push _ _
            have f6 : ∀ j, blkOf (.slice b5 lf.length c5) j → h1.next ≤ j ∧ j < h5.next := fun j hj => ⟨f5 j hj, hov5.lt hj⟩
            generalize h5.push (.cells [.int .i64 cf, .slice b5 lf.length c5] 0) = h6 at *
            refine WPo.mono (Q := fun q => (∃ tm' h7, q = (.ret, ⟨tm', h7, []⟩) ∧ Fr.get tm' 8 = .bool true) ∨ ∃ tm' h7 y cg kd, q = (.normal, ⟨tm', h7, []⟩) ∧ y.id = x.id ∧ ((what = 0 ∧ kd = 10 ∧ y.lag = x.lag ∧ cg = cf) ∨ (what ≠ 0 ∧ kd = 11 ∧ y.w = x.w ∧ y.lag ≠ x.lag ∧ cg = cf) ∨ (what ≠ 0 ∧ kd = 12 ∧ y = x ∧ cg = x.id ∧ cg ≠ cf)) ∧ OW itemE 3 h7 (.slice b5 lf.length c5) (lf.set i y) ∧ h7.get h5.next = .cells [.int .i64 cg, .slice b5 lf.length c5] 0 ∧ h7.get h.next = .cells [.int .i64 cf, .slice af lf.length kf] 0 ∧ h5.next < h7.next ∧ Ext h h7 ∧ Fr.get tm' 4 = ptr h.next 0 ∧ Fr.get tm' 9 = ptr h5.next 0 ∧ Fr.get tm' 1 = .int .i64 i ∧ Fr.get tm' 2 = .int .i64 what ∧ Fr.get tm' 10 = .int .i64 kd) ?_ ?_
            · by_cases w0 : what = 0
              · have d0 : decide (what = 0) = true := decide_eq_true w0
                have ht := tmod20 ⟨hmay.2.2.1, hmay.2.2.2⟩
                have hwr : wrapF .i64 (x.w.tmod 20 + 1) = x.w.tmod 20 + 1 := wrap64 (by omega)
                have hrem : ∀ (P : Program) (t : TypeId) (y z : Operand), evBin P .rem t y z (.int .i64 x.w) (.int .i64 20) = some (.int .i64 (x.w.tmod 20)) := fun P t y z => bin_rem0 P t y z _ _ _ (by decide)
                obtain ⟨b, o, c, cs, e, hb, hc, hl, hr, hput⟩ := hov6.put3 i 1 x ⟨x.id, x.w.tmod 20 + 1, x.lag⟩ (.int .i64 (x.w.tmod 20 + 1)) hx (by decide) rfl
                cases e
                have hf6 := f6 b rfl
                have hr1 := hr 1 _ rfl
                have hi0 : ((i : Int)).toNat = i := by omega
                simp (maxSteps := 1000000) (disch := first | decide | omega | (simp only [go_sem]; first | done | omega)) only [go_sem, Int.reduceToNat, Nat.reduceMul, Nat.reduceAdd, Nat.reduceSub, ↓EU_region, ↓EU_draw, d0, o6, g6, hc, hr1, hrem, hwr, hi0]
                exact .inr ⟨_, _, ⟨x.id, x.w.tmod 20 + 1, x.lag⟩, cf, 10, rfl, rfl, .inl ⟨w0, rfl, rfl, rfl⟩, hput, by rw [get_set_ne _ (by omega)]; exact g6, by rw [get_set_ne _ (by omega)]; exact o6, by rw [next_set]; omega, y6.set _ _ (by omega), by simp (maxSteps := 1000000) (disch := first | decide | omega | (simp only [go_sem]; first | done | omega)) only [go_sem, Int.reduceToNat, Nat.reduceMul, Nat.reduceAdd, Nat.reduceSub, ↓EU_region, ↓EU_draw], by simp (maxSteps := 1000000) (disch := first | decide | omega | (simp only [go_sem]; first | done | omega)) only [go_sem, Int.reduceToNat, Nat.reduceMul, Nat.reduceAdd, Nat.reduceSub, ↓EU_region, ↓EU_draw], by simp (maxSteps := 1000000) (disch := first | decide | omega | (simp only [go_sem]; first | done | omega)) only [go_sem, Int.reduceToNat, Nat.reduceMul, Nat.reduceAdd, Nat.reduceSub, ↓EU_region, ↓EU_draw], by simp (maxSteps := 1000000) (disch := first | decide | omega | (simp only [go_sem]; first | done | omega)) only [go_sem, Int.reduceToNat, Nat.reduceMul, Nat.reduceAdd, Nat.reduceSub, ↓EU_region, ↓EU_draw], by simp (maxSteps := 1000000) (disch := first | decide | omega | (simp only [go_sem]; first | done | omega)) only [go_sem, Int.reduceToNat, Nat.reduceMul, Nat.reduceAdd, Nat.reduceSub, ↓EU_region, ↓EU_draw]⟩
              · have d0 : decide (what = 0) = false := decide_eq_false w0
                have hi0 : ((i : Int)).toNat = i := by omega
                by_cases w1 : what = 1
                · have d1 : decide (what = 1) = true := decide_eq_true w1
                  have ht := tmod_lt by_
                  have hwr : wrapF .i64 (x.lag + by_.tmod 1000) = x.lag + by_.tmod 1000 := wrap64 (by omega)
                  have hrem : ∀ (P : Program) (t : TypeId) (y z : Operand), evBin P .rem t y z (.int .i64 by_) (.int .i64 1000) = some (.int .i64 (by_.tmod 1000)) := fun P t y z => bin_rem0 P t y z _ _ _ (by decide)
                  obtain ⟨b, o, c, cs, e, hb, hc, hl, hr, hput⟩ := hov6.put3 i 2 x ⟨x.id, x.w, x.lag + by_.tmod 1000⟩ (.int .i64 (x.lag + by_.tmod 1000)) hx (by decide) rfl
                  cases e
                  have hf6 := f6 b rfl
                  have hr1 := hr 2 _ rfl
                  simp (maxSteps := 1000000) (disch := first | decide | omega | (simp only [go_sem]; first | done | omega)) only [go_sem, Int.reduceToNat, Nat.reduceMul, Nat.reduceAdd, Nat.reduceSub, ↓EU_region, ↓EU_draw, d0, d1, o6, g6, hc, hr1, hrem, hwr, hi0]
                  by_cases w2 : by_.tmod 1000 = 0
                  · have d2 : decide (by_.tmod 1000 = 0) = true := decide_eq_true w2
                    simp (maxSteps := 1000000) (disch := first | decide | omega | (simp only [go_sem]; first | done | omega)) only [go_sem, Int.reduceToNat, Nat.reduceMul, Nat.reduceAdd, Nat.reduceSub, ↓EU_region, ↓EU_draw, d2]
                    exact .inl ⟨_, _, rfl, by simp (maxSteps := 1000000) (disch := first | decide | omega | (simp only [go_sem]; first | done | omega)) only [go_sem, Int.reduceToNat, Nat.reduceMul, Nat.reduceAdd, Nat.reduceSub, ↓EU_region, ↓EU_draw]⟩
                  · have d2 : decide (by_.tmod 1000 = 0) = false := decide_eq_false w2
                    simp (maxSteps := 1000000) (disch := first | decide | omega | (simp only [go_sem]; first | done | omega)) only [go_sem, Int.reduceToNat, Nat.reduceMul, Nat.reduceAdd, Nat.reduceSub, ↓EU_region, ↓EU_draw, d2]
                    exact .inr ⟨_, _, ⟨x.id, x.w, x.lag + by_.tmod 1000⟩, cf, 11, rfl, rfl, .inr (.inl ⟨w0, rfl, rfl, by dsimp only; omega, rfl⟩), hput, by rw [get_set_ne _ (by omega)]; exact g6, by rw [get_set_ne _ (by omega)]; exact o6, by rw [next_set]; omega, y6.set _ _ (by omega), by simp (maxSteps := 1000000) (disch := first | decide | omega | (simp only [go_sem]; first | done | omega)) only [go_sem, Int.reduceToNat, Nat.reduceMul, Nat.reduceAdd, Nat.reduceSub, ↓EU_region, ↓EU_draw], by simp (maxSteps := 1000000) (disch := first | decide | omega | (simp only [go_sem]; first | done | omega)) only [go_sem, Int.reduceToNat, Nat.reduceMul, Nat.reduceAdd, Nat.reduceSub, ↓EU_region, ↓EU_draw], by simp (maxSteps := 1000000) (disch := first | decide | omega | (simp only [go_sem]; first | done | omega)) only [go_sem, Int.reduceToNat, Nat.reduceMul, Nat.reduceAdd, Nat.reduceSub, ↓EU_region, ↓EU_draw], by simp (maxSteps := 1000000) (disch := first | decide | omega | (simp only [go_sem]; first | done | omega)) only [go_sem, Int.reduceToNat, Nat.reduceMul, Nat.reduceAdd, Nat.reduceSub, ↓EU_region, ↓EU_draw], by simp (maxSteps := 1000000) (disch := first | decide | omega | (simp only [go_sem]; first | done | omega)) only [go_sem, Int.reduceToNat, Nat.reduceMul, Nat.reduceAdd, Nat.reduceSub, ↓EU_region, ↓EU_draw]⟩
                · have d1 : decide (what = 1) = false := decide_eq_false w1
                  obtain ⟨b, o, c', e, hb', hrd, hr⟩ := hov6.sl.at hx rfl
                  cases e
                  have hr0 := hr 0 _ rfl
                  rw [add_z] at hr0
                  have hf6 := f6 b rfl
                  have o6' : (h6.set h5.next (.cells [.int .i64 x.id, .slice (some ⟨b, o, none⟩) lf.length c5] 0)).get h.next = .cells [.int .i64 cf, .slice af lf.length kf] 0 := by rw [get_set_ne _ (by omega)]; exact o6
                  simp (maxSteps := 1000000) (disch := first | decide | omega | (simp only [go_sem]; first | done | omega)) only [go_sem, Int.reduceToNat, Nat.reduceMul, Nat.reduceAdd, Nat.reduceSub, ↓EU_region, ↓EU_draw, d0, d1, o6, g6, hr0, hi0, o6']
                  have hse : lf.set i x = lf := by
                    apply List.ext_getElem?
                    intro j
                    rw [List.getElem?_set]
                    split
                    · rename_i q; subst q; rw [hx]
                    · rfl
                  by_cases w2 : x.id = cf
                  · have d2 : decide (x.id = cf) = true := decide_eq_true w2
                    simp (maxSteps := 1000000) (disch := first | decide | omega | (simp only [go_sem]; first | done | omega)) only [go_sem, Int.reduceToNat, Nat.reduceMul, Nat.reduceAdd, Nat.reduceSub, ↓EU_region, ↓EU_draw, d2]
                    exact .inl ⟨_, _, rfl, by simp (maxSteps := 1000000) (disch := first | decide | omega | (simp only [go_sem]; first | done | omega)) only [go_sem, Int.reduceToNat, Nat.reduceMul, Nat.reduceAdd, Nat.reduceSub, ↓EU_region, ↓EU_draw]⟩
                  · have d2 : decide (x.id = cf) = false := decide_eq_false w2
                    simp (maxSteps := 1000000) (disch := first | decide | omega | (simp only [go_sem]; first | done | omega)) only [go_sem, Int.reduceToNat, Nat.reduceMul, Nat.reduceAdd, Nat.reduceSub, ↓EU_region, ↓EU_draw, d2]
                    exact .inr ⟨_, _, x, x.id, 12, rfl, rfl, .inr (.inr ⟨w0, rfl, rfl, rfl, w2⟩), by rw [hse]; exact hov6.mod ((Mod.refl (fun j => j = h5.next) _).set _ _ fun _ => rfl) (fun j hj q => by have := f6 j hj; omega), get_set_same _ _ _, o6', by rw [next_set]; omega, y6.set _ _ (by omega), by simp (maxSteps := 1000000) (disch := first | decide | omega | (simp only [go_sem]; first | done | omega)) only [go_sem, Int.reduceToNat, Nat.reduceMul, Nat.reduceAdd, Nat.reduceSub, ↓EU_region, ↓EU_draw], by simp (maxSteps := 1000000) (disch := first | decide | omega | (simp only [go_sem]; first | done | omega)) only [go_sem, Int.reduceToNat, Nat.reduceMul, Nat.reduceAdd, Nat.reduceSub, ↓EU_region, ↓EU_draw], by simp (maxSteps := 1000000) (disch := first | decide | omega | (simp only [go_sem]; first | done | omega)) only [go_sem, Int.reduceToNat, Nat.reduceMul, Nat.reduceAdd, Nat.reduceSub, ↓EU_region, ↓EU_draw], by simp (maxSteps := 1000000) (disch := first | decide | omega | (simp only [go_sem]; first | done | omega)) only [go_sem, Int.reduceToNat, Nat.reduceMul, Nat.reduceAdd, Nat.reduceSub, ↓EU_region, ↓EU_draw], by simp (maxSteps := 1000000) (disch := first | decide | omega | (simp only [go_sem]; first | done | omega)) only [go_sem, Int.reduceToNat, Nat.reduceMul, Nat.reduceAdd, Nat.reduceSub, ↓EU_region, ↓EU_draw]⟩
            · rintro _ (⟨tm', h7, rfl, k8⟩ | ⟨tm', h7, y, cg, kd, rfl, hyi, hcase, hov7, g7, o7, n7, y7, k4, k9, k1, k2, k10⟩)
              · simp (maxSteps := 1000000) (disch := first | decide | omega | (simp only [go_sem]; first | done | omega)) only [go_sem, Int.reduceToNat, Nat.reduceMul, Nat.reduceAdd, Nat.reduceSub, ↓EU_region, ↓EU_draw, k8]
              · have hlg : (lf.set i y).length = lf.length := List.length_set
                have hgy : (lf.set i y)[i]? = some y := by rw [List.getElem?_set_self hi]
                obtain ⟨hs1, hs2⟩ := set_split hx y
                have hFt : goodF cg (lf.set i y) = true → faultsF cg (lf.set i y) cf lf = (ifF (!decide (y.w = x.w)) ⟨10, x.id⟩ ++ ifF (!decide (y.lag = x.lag)) ⟨11, x.id⟩) ++ ifF (!decide (cg = cf)) ⟨12, cg⟩ := fun hg => by
                  have h1 := hG
                  rw [hs2] at hg ⊢
                  rw [hs1] at h1
                  have := faults_turn hg h1 hyi
                  rw [← hs1] at this
                  exact this
                clear hs1 hs2
                generalize lf.set i y = lg at *
                have p7 := good_ev cg lg (.slice b5 lf.length c5) h7 hov7.sl (by omega)
                unfold formV at p7
                simp (maxSteps := 1000000) (disch := first | decide | omega | (simp only [go_sem]; first | done | omega)) only [go_sem, Int.reduceToNat, Nat.reduceMul, Nat.reduceAdd, Nat.reduceSub, ↓EU_region, ↓EU_draw, k4, k9, g7, o7]
                repeat refine WPo_ob ?_
                refine p7.bind fun h8 x8 => ?_
                have hn8 := x8.le
                have hn7 := y7.le
                have g8 := (x8.old _ n7).trans g7
                have o8 := (x8.old h.next (by omega)).trans o7
                have hov8 := hov7.ext x8
                have y8 := y7.trans x8
                cases hG2 : goodF cg lg with
                | false => simp (maxSteps := 1000000) (disch := first | decide | omega | (simp only [go_sem]; first | done | omega)) only [go_sem, Int.reduceToNat, Nat.reduceMul, Nat.reduceAdd, Nat.reduceSub, ↓EU_region, ↓EU_draw]
                | true =>
                  have hF := hFt hG2
                  have p8 := faults_ev cg cf lg lf _ _ h8 hov8.sl (hf.ext y8) (by omega) (by omega)
                  unfold formV at p8
                  simp (maxSteps := 1000000) (disch := first | decide | omega | (simp only [go_sem]; first | done | omega)) only [go_sem, Int.reduceToNat, Nat.reduceMul, Nat.reduceAdd, Nat.reduceSub, ↓EU_region, ↓EU_draw, k4, k9, g8, o8]
                  repeat refine WPo_ob ?_
                  refine p8.mono ?_
                  rintro ⟨v9, h9⟩ ⟨q9, f9, x9⟩
                  simp only at q9 f9 x9
                  rw [hF] at q9
                  have hn9 := x9.le
                  have g9 := (x9.old h5.next (by omega)).trans g8
                  have o9 := (x9.old h.next (by omega)).trans o8
                  have hov9 := hov8.ext x9
                  have y9 := y8.trans x9
                  obtain ⟨bg, og, cg', e, _, _, hrg⟩ := hov9.sl.at hgy rfl
                  rw [hlg] at e
                  cases e
                  obtain ⟨bf, of_, cf', e, _, _, hrf⟩ := (hf.ext y9).at hx rfl
                  cases e
                  have hg0 := hrg 0 _ rfl
                  rw [add_z] at hg0
                  have hg1 := hrg 1 _ rfl
                  have hf1 := hrf 1 _ rfl
                  have hi0 : ((i : Int)).toNat = i := by omega
                  rcases hcase with ⟨w0, rfl, hl, hc⟩ | ⟨w0, rfl, hw, hl, hc⟩ | ⟨w0, rfl, hy, hc, hcc⟩
                  · have d0 : decide (what = 0) = true := decide_eq_true w0
                    rw [hl, hc, decide_eq_true rfl, decide_eq_true rfl, Bool.not_true, ifF_f, ifF_f, List.append_nil, List.append_nil] at q9
                    by_cases hww : y.w = x.w
                    · have d1 : decide (y.w = x.w) = true := decide_eq_true hww
                      rw [d1, Bool.not_true, ifF_f] at q9
                      obtain ⟨b9, c9, rfl⟩ := q9.val
                      simp (maxSteps := 1000000) (disch := first | decide | omega | (simp only [go_sem]; first | done | omega)) only [go_sem, Int.reduceToNat, Nat.reduceMul, Nat.reduceAdd, Nat.reduceSub, ↓EU_region, ↓EU_draw, dec_t, dec_f, k1, k2, k4, k9, k10, d0, d1, g9, o9, hg1, hf1, hi0]
                    · have d1 : decide (y.w = x.w) = false := decide_eq_false hww
                      rw [d1, Bool.not_false, ifF_t] at q9
                      obtain ⟨b9, o9', c9, e, _, _, hr9⟩ := q9.sl.at (i := 0) rfl rfl
                      cases e
                      have hk0 := hr9 0 _ rfl
                      have hk1 := hr9 1 _ rfl
                      simp only [Nat.zero_mul, Nat.add_zero] at hk0 hk1
                      have de : decide (x.id = y.id) = true := decide_eq_true hyi.symm
                      simp (maxSteps := 1000000) (disch := first | decide | omega | (simp only [go_sem]; first | done | omega)) only [go_sem, Int.reduceToNat, Nat.reduceMul, Nat.reduceAdd, Nat.reduceSub, ↓EU_region, ↓EU_draw, dec_t, dec_f, k1, k2, k4, k9, k10, d0, d1,g9, o9, hg0, hg1, hf1, hi0, hk0, hk1, de]
                  · have d0 : decide (what = 0) = false := decide_eq_false w0
                    rw [hw, hc, decide_eq_true rfl, decide_eq_true rfl, decide_eq_false hl, Bool.not_true, Bool.not_false, ifF_f, ifF_f, ifF_t, List.append_nil, List.nil_append] at q9
                    obtain ⟨b9, o9', c9, e, _, _, hr9⟩ := q9.sl.at (i := 0) rfl rfl
                    cases e
                    have hk0 := hr9 0 _ rfl
                    have hk1 := hr9 1 _ rfl
                    simp only [Nat.zero_mul, Nat.add_zero] at hk0 hk1
                    have de : decide (x.id = y.id) = true := decide_eq_true hyi.symm
                    simp (maxSteps := 1000000) (disch := first | decide | omega | (simp only [go_sem]; first | done | omega)) only [go_sem, Int.reduceToNat, Nat.reduceMul, Nat.reduceAdd, Nat.reduceSub, ↓EU_region, ↓EU_draw, dec_t, dec_f, k1, k2, k4, k9, k10, d0,g9, o9, hg0, hg1, hf1, hi0, hk0, hk1, de]
                  · have d0 : decide (what = 0) = false := decide_eq_false w0
                    rw [hy, decide_eq_true rfl, decide_eq_true rfl, decide_eq_false hcc, Bool.not_true, Bool.not_false, ifF_f, ifF_f, ifF_t, List.append_nil, List.nil_append, hc] at q9
                    obtain ⟨b9, o9', c9, e, _, _, hr9⟩ := q9.sl.at (i := 0) rfl rfl
                    cases e
                    have hk0 := hr9 0 _ rfl
                    have hk1 := hr9 1 _ rfl
                    simp only [Nat.zero_mul, Nat.add_zero] at hk0 hk1
                    have de : decide (x.id = y.id) = true := decide_eq_true hyi.symm
                    simp (maxSteps := 1000000) (disch := first | decide | omega | (simp only [go_sem]; first | done | omega)) only [go_sem, Int.reduceToNat, Nat.reduceMul, Nat.reduceAdd, Nat.reduceSub, ↓EU_region, ↓EU_draw, dec_t, dec_f, k1, k2, k4, k9, k10, d0,g9, o9, hg0, hg1, hf1, hi0, hk0, hk1, de]
        · simp (maxSteps := 1000000) (disch := first | decide | omega | (simp only [go_sem]; first | done | omega)) only [go_sem, Int.reduceToNat, Nat.reduceMul, Nat.reduceAdd, Nat.reduceSub, ↓EU_region, ↓EU_draw, b3]
      · simp (maxSteps := 1000000) (disch := first | decide | omega | (simp only [go_sem]; first | done | omega)) only [go_sem, Int.reduceToNat, Nat.reduceMul, Nat.reduceAdd, Nat.reduceSub, ↓EU_region, ↓EU_draw, b2]
  · simp (maxSteps := 1000000) (disch := first | decide | omega | (simp only [go_sem]; first | done | omega)) only [go_sem, Int.reduceToNat, Nat.reduceMul, Nat.reduceAdd, Nat.reduceSub, ↓EU_region, ↓EU_draw, b1]
end Go.Proofs.YtggidmjgadlolaaDoor.EV
