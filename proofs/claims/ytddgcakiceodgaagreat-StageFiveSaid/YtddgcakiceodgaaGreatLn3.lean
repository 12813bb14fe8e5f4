/- Contract: owed.SeedLine. No condition. -/
import Derived.Test.YtddgcakiceodgaaGreatLn2
namespace Go.Proofs.YtddgcakiceodgaaGreat.EV
open Go Go.Proofs
set_option linter.unusedVariables false
set_option linter.unusedSimpArgs false
set_option maxRecDepth 100000
set_option pp.deepTerms false
set_option pp.deepTerms.threshold 20
theorem lnMay_facts {x : Item} (h : imay x = true) : 0 ≤ x.id ∧ x.id ≤ 1073741824 ∧ 1 ≤ x.w ∧ x.w ≤ 20 ∧ -1125899906842624 ≤ x.lag ∧ x.lag ≤ 1125899906842624 := by
  unfold imay wgood at h
  simpa [and_assoc] using h
theorem lnOrd_may : ∀ {l : List Item} {p : Option Item}, ordOk p l = true → ∀ x ∈ l, imay x = true
  | [], _, _, x, hx => by cases hx
  | y :: l, p, h, x, hx => by
    have : imay y = true ∧ ordOk (some y) l = true := by
      cases p with
      | none => simpa [ordOk] using h
      | some q => simp [ordOk] at h; exact ⟨h.1, h.2.2⟩
    rcases List.mem_cons.1 hx with rfl | hx
    · exact this.1
    · exact lnOrd_may this.2 x hx
theorem lnGood_may {cur : Int} {l : List Item} (h : goodF cur l = true) : ∀ x ∈ l, imay x = true := by
  unfold goodF at h
  simp only [Bool.and_eq_true] at h
  exact lnOrd_may h.2.2.1
theorem lnGood_len {cur : Int} {l : List Item} (h : goodF cur l = true) : l.length ≤ 64 := by
  unfold goodF at h
  simp only [Bool.and_eq_true, decide_eq_true_eq] at h
  exact h.1
set_option maxHeartbeats 1000000 in
theorem seedLine_ev (base cur : Int) (l : List Item) (s : Value) (h : Heap) (hs : SL itemE 3 h s l) (hl : l.length < 900000) :
    WPo (EF Tryz.prog O0 78 [formV cur s, .int .i64 base] h) fun q => Ext h q.2 ∧ if bgood base && goodF cur l then ∃ v, q.1 = .tuple ⟨[lineV base cur v, .int .i64 0]⟩ ∧ OW pntE 4 q.2 v (l.map (ptI base)) ∧ Fresh h.next v else q.1 = .tuple ⟨[lineV 0 0 noS, .int .i64 1]⟩ := by
  rw [EF_body (O := O0) (by kernel_rfl) Tryz.func78 rfl (rs := [.cell 4 132, .tmp 5]) rfl (bad := [8]) (by kernel_rfl) _ _ (m := 50) rfl]
  obtain ⟨a, c, hv⟩ := hs.val
  subst hv
  have hG := fun h' (x : Ext h h') => good_ev cur l (.slice a l.length c) h' (hs.ext x) hl
  unfold formV lineV noS at *
  simp (maxSteps := 1000000) (disch := first | decide | omega | (simp only [go_sem]; first | done | omega)) only [go_sem, Int.reduceToNat, Nat.reduceMul, Nat.reduceAdd, Nat.reduceSub, ↓EU_region, ↓EU_draw]
  repeat refine WPo_ob ?_
  refine (newLine_ev base _).bind fun h1 x1 => ?_
  unfold lineV noS
  have hn1 := x1.le
  simp only [next_push] at hn1
  have hk1 : ∀ k, k < h.next → h1.get k = h.get k := fun k hk => by rw [x1.old _ (by simp only [next_push]; omega), get_push_old _ (by simp only [next_push]; omega), get_push_old _ (by omega)]
  have hf1 : h1.get h.next = .cells [.int .i64 cur, .slice a l.length c] 0 := by simp (maxSteps := 1000000) (disch := first | decide | omega | (simp only [go_sem]; first | done | omega)) only [go_sem, Int.reduceToNat, Nat.reduceMul, Nat.reduceAdd, Nat.reduceSub, ↓EU_region, ↓EU_draw, x1.old]
  have hr1 : h1.get (h.next + 1) = .cells [.int .i64 0, .int .i64 0, .slice none 0 1] 0 := by simp (maxSteps := 1000000) (disch := first | decide | omega | (simp only [go_sem]; first | done | omega)) only [go_sem, Int.reduceToNat, Nat.reduceMul, Nat.reduceAdd, Nat.reduceSub, ↓EU_region, ↓EU_draw, x1.old]
  have xh1 : Ext h h1 := ((((Ext.refl h).push _).push _).trans x1)
  cases hbg : bgood base with
  | false =>
    have d10 : decide ((1 : Int) = 0) = false := rfl
    simp (maxSteps := 1000000) (disch := first | decide | omega | (simp only [go_sem]; first | done | omega)) only [go_sem, Int.reduceToNat, Nat.reduceMul, Nat.reduceAdd, Nat.reduceSub, ↓EU_region, ↓EU_draw, Bool.false_and, if_false, Bool.false_eq_true, d10, hr1]
    exact ⟨(xh1.push _).set _ _ (by omega), trivial⟩
  | true =>
    have hbf := bgood_facts hbg
    simp (maxSteps := 1000000) (disch := first | decide | omega | (simp only [go_sem]; first | done | omega)) only [go_sem, Int.reduceToNat, Nat.reduceMul, Nat.reduceAdd, Nat.reduceSub, if_true]
    simp (maxSteps := 1000000) (disch := first | decide | omega | (simp only [go_sem]; first | done | omega)) only [go_sem, Int.reduceToNat, Nat.reduceMul, Nat.reduceAdd, Nat.reduceSub, ↓EU_region, ↓EU_draw, hf1]
    repeat refine WPo_ob ?_
    refine (hG _ ((xh1.push _))).bind fun h2 x2 => ?_
    have hn2 := x2.le
    simp only [next_push] at hn2
    have hf2 : h2.get h.next = .cells [.int .i64 cur, .slice a l.length c] 0 := by simp (maxSteps := 1000000) (disch := first | decide | omega | (simp only [go_sem]; first | done | omega)) only [go_sem, Int.reduceToNat, Nat.reduceMul, Nat.reduceAdd, Nat.reduceSub, ↓EU_region, ↓EU_draw, x2.old, hf1]
    have hr2 : h2.get (h.next + 1) = .cells [.int .i64 0, .int .i64 0, .slice none 0 1] 0 := by simp (maxSteps := 1000000) (disch := first | decide | omega | (simp only [go_sem]; first | done | omega)) only [go_sem, Int.reduceToNat, Nat.reduceMul, Nat.reduceAdd, Nat.reduceSub, ↓EU_region, ↓EU_draw, x2.old, hr1]
    have hl2 : h2.get h1.next = .cells [.int .i64 base, .int .i64 (-1), .slice none 0 1] 0 := by simp (maxSteps := 1000000) (disch := first | decide | omega | (simp only [go_sem]; first | done | omega)) only [go_sem, Int.reduceToNat, Nat.reduceMul, Nat.reduceAdd, Nat.reduceSub, ↓EU_region, ↓EU_draw, x2.old]
    have xh2 : Ext h h2 := (xh1.push _).trans x2
    cases hgf : goodF cur l with
    | false =>
      simp (maxSteps := 1000000) (disch := first | decide | omega | (simp only [go_sem]; first | done | omega)) only [go_sem, Int.reduceToNat, Nat.reduceMul, Nat.reduceAdd, Nat.reduceSub, ↓EU_region, ↓EU_draw, hr2, Bool.and_false, if_false, Bool.false_eq_true]
      exact ⟨xh2.set _ _ (by omega), trivial⟩
    | true =>
      have hmay := lnGood_may hgf
      have hne : h1.next ≠ h.next + 1 := by omega
      have hlen := lnGood_len hgf
      simp (maxSteps := 1000000) (disch := first | decide | omega | (simp only [go_sem]; first | done | omega)) only [go_sem, Int.reduceToNat, Nat.reduceMul, Nat.reduceAdd, Nat.reduceSub, ↓EU_region, ↓EU_draw, hf2, hl2, hr2, Bool.and_self, if_true]
      repeat refine WPo_ob ?_
      refine (LP_rule (fun m st => ∃ (i : Nat) (tm : Fr) (h2 : Heap) (v : Value), st = ⟨tm, h2, []⟩ ∧ m = l.length - i ∧ i ≤ l.length ∧ Fr.get tm 1 = .int .i64 base ∧ Fr.get tm 4 = ptr (h.next + 1) 0 ∧ Fr.get tm 6 = ptr h1.next 0 ∧ Fr.get tm 27 = .slice a l.length c ∧ Fr.get tm 28 = .int .i64 l.length ∧ Fr.get tm 29 = .int .i64 i ∧ Ext h h2 ∧ h2.get (h.next + 1) = .cells [.int .i64 0, .int .i64 0, .slice none 0 1] 0 ∧ h2.get h1.next = .cells [.int .i64 base, .int .i64 cur, v] 0 ∧ OW pntE 4 h2 v ((l.take i).map (ptI base)) ∧ Fresh (h1.next + 1) v ∧ h1.next + 1 ≤ h2.next)
        (fun q => ∃ tm h2 v, q.2 = ⟨tm, h2, []⟩ ∧ q.1 = .exit 0 ∧ Fr.get tm 4 = ptr (h.next + 1) 0 ∧ Fr.get tm 6 = ptr h1.next 0 ∧ Ext h h2 ∧ h2.get (h.next + 1) = .cells [.int .i64 0, .int .i64 0, .slice none 0 1] 0 ∧ h2.get h1.next = .cells [.int .i64 base, .int .i64 cur, v] 0 ∧ OW pntE 4 h2 v (l.map (ptI base)) ∧ Fresh (h1.next + 1) v ∧ h1.next + 1 ≤ h2.next) ?_ l.length _ _ ?_ ?_).mono ?_
      · clear hf2 hr2 hl2 x2 xh2 hn2 h2
        rintro m _ ⟨i, tm, h2, v, rfl, rfl, hi, g1, g4, g6, g27, g28, g29, x2, hR, hB, hov, hfv, hn2⟩
        simp (maxSteps := 1000000) (disch := first | decide | omega | (simp only [go_sem]; first | done | omega)) only [go_sem, Int.reduceToNat, Nat.reduceMul, Nat.reduceAdd, Nat.reduceSub, ↓EU_region, ↓EU_draw, g27, g28, g29]
        ((repeat refine WPo_ob ?_); (first | refine WPo_cond (fun b1 => ?_) (fun b1 => ?_) | refine WPo_gard (fun b1 => ?_) (fun b1 => ?_) | refine WPo_gardT (fun b1 => ?_) (fun b1 => ?_)) <;> (try simp only [Bool.not_eq_true', Bool.not_eq_false'] at b1))
        · have b1' := b1
          simp only [decide_eq_true_eq] at b1'
          have hi' : i < l.length := by omega
          obtain ⟨x, hx⟩ : ∃ x, l[i]? = some x := ⟨_, List.getElem?_eq_getElem hi'⟩
          have hm := lnMay_facts (hmay x (List.mem_of_getElem? hx))
          have hww : wrapF .i64 (base - x.lag) = base - x.lag := wrap64 (by omega)
          obtain ⟨b', o, c', e, hb', hrd, hr⟩ := (hs.ext x2).at hx rfl
          cases e
          unfold itemE at hrd
          simp (maxSteps := 1000000) (disch := first | decide | omega | (simp only [go_sem]; first | done | omega)) only [go_sem, Int.reduceToNat, Nat.reduceMul, Nat.reduceAdd, Nat.reduceSub, g27, g28, g29, hrd]
          (first | rw [EU_region] | rw [EU_draw _ _ rfl]); simp (maxSteps := 1000000) (disch := first | decide | omega | (simp only [go_sem]; first | done | omega)) only [go_sem, Int.reduceToNat, Nat.reduceMul, Nat.reduceAdd, Nat.reduceSub, g27, g28, g29, hrd]
          rw [EU_bad _ _ rfl, EC_tab (tab := [(false, none), (false, (some (0, 2))), (false, none), (false, none), (false, none), (false, none), (false, none), (false, none), (false, none), (false, none), (false, none), (true, none), (true, none), (true, none), (false, none), (true, none)]) (by kernel_rfl)]
          obtain ⟨av, kv, hvv⟩ := hov.val
          subst hvv
          simp (maxSteps := 1000000) (disch := first | decide | omega | (simp only [go_sem]; first | done | omega)) only [go_sem, Int.reduceToNat, Nat.reduceMul, Nat.reduceAdd, Nat.reduceSub, ↓EU_region, ↓EU_draw, g1, g4, g6, g27, g28, g29, hB, hww, hrd]
          repeat refine WPo_ob ?_
          have hD := day_ev ⟨x.id, x.w, base - x.lag, 0⟩ (h2.push (.cells (itemE x) 0)) (by simp only; omega)
          unfold pntE itemE at hD
          simp only at hD
          refine hD.bind fun h3 x3 => ?_
          have hn3 := x3.le
          simp only [next_push] at hn3
          have x23 : Ext h2 h3 := ((Ext.refl h2).push _).trans x3
          have hI3 : h3.get h2.next = .cells [.int .i64 x.id, .int .i64 x.w, .int .i64 x.lag] 0 := by rw [x3.old _ (by rw [next_push]; omega)]; exact get_push_new _ _
          have hB3 := (x23.old h1.next (by omega)).trans hB
          have hR3 := (x23.old (h.next + 1) (by omega)).trans hR
          have hpe : (.agg ⟨[.int .i64 (dayP ⟨x.id, x.w, base - x.lag, 0⟩).id, .int .i64 (dayP ⟨x.id, x.w, base - x.lag, 0⟩).w, .int .i64 (dayP ⟨x.id, x.w, base - x.lag, 0⟩).v, .int .i64 (dayP ⟨x.id, x.w, base - x.lag, 0⟩).day]⟩ : Value) = .agg ⟨pntE (ptI base x)⟩ := rfl
          rw [hpe]
          clear hpe hD
          have hov3 := hov.ext x23
          simp (maxSteps := 1000000) (disch := first | decide | omega | (simp only [go_sem]; first | done | omega)) only [go_sem, Int.reduceToNat, Nat.reduceMul, Nat.reduceAdd, Nat.reduceSub, ↓EU_region, ↓EU_draw, g1, g4, g6, g27, g28, g29, hB3]
          repeat refine WPo_ob ?_
          have hlit := OW.lit pntE_len h3 [ptI base x]
          rw [List.flatMap_cons, List.flatMap_nil, List.append_nil] at hlit
          have hm1 : ∀ j, blkOf (.slice av ((l.take i).map (ptI base)).length kv) j → h.next ≤ j := fun j hj => by have := hfv j hj; omega
          have hsn : (l.take (i + 1)).map (ptI base) = (l.take i).map (ptI base) ++ [ptI base x] := by rw [List.take_add_one, hx, List.map_append]; rfl
          refine append_gr (l := (l.take i).map (ptI base)) (l' := [ptI base x]) fc_ap_130_130 pntE_len (by decide) pntE_scal (hov3.ext ((Ext.refl h3).push _)) hlit.sl (by rw [List.length_map, List.length_take]; simp only [List.length_cons, List.length_nil]; omega) (by rw [List.length_map, List.length_take]; simp only [List.length_cons, List.length_nil]; omega) fun v' h4 hov' gr => ?_
          rw [← hsn] at hov'
          have hnv : ∀ k, k ≤ h1.next → ¬ blkOf (.slice av ((l.take i).map (ptI base)).length kv) k := fun k hk q => by have := hfv _ q; omega
          have hk3 : ∀ k, k ≤ h1.next → h4.get k = h3.get k := fun k hk => by rw [gr.old _ (by simp only [next_push]; omega) (hnv k hk), get_push_old _ (by omega)]
          have hB' := (hk3 h1.next (by omega)).trans hB3
          have hR' := (hk3 (h.next + 1) (by omega)).trans hR3
          have hn' := gr.le
          simp only [next_push] at hn'
          have hfv' : Fresh (h1.next + 1) v' := gr.fresh hfv (by simp only [next_push]; omega)
          obtain ⟨av', kv', hvv'⟩ := hov'.val
          subst hvv'
          simp (maxSteps := 1000000) (disch := first | decide | omega | (simp only [go_sem]; first | done | omega)) only [go_sem, Int.reduceToNat, Nat.reduceMul, Nat.reduceAdd, Nat.reduceSub, ↓EU_region, ↓EU_draw, g1, g4, g6, g27, g28, g29, hB, hB3, hB', hov.veq]
          have hm2 : Mod (fun j => h.next ≤ j) h2 (h4.set h1.next (.cells [.int .i64 base, .int .i64 cur, .slice av' ((l.take (i + 1)).map (ptI base)).length kv'] 0)) := ((((x23.mod _).push _).trans (gr.mod.mono fun j _ hj => hm1 j hj))).set _ _ fun _ => by omega
          refine ⟨_, by omega, i + 1, _, _, _, rfl, rfl, by omega, by simp (maxSteps := 1000000) (disch := first | decide | omega | (simp only [go_sem]; first | done | omega)) only [go_sem, Int.reduceToNat, Nat.reduceMul, Nat.reduceAdd, Nat.reduceSub, ↓EU_region, ↓EU_draw, g1], by simp (maxSteps := 1000000) (disch := first | decide | omega | (simp only [go_sem]; first | done | omega)) only [go_sem, Int.reduceToNat, Nat.reduceMul, Nat.reduceAdd, Nat.reduceSub, ↓EU_region, ↓EU_draw, g4], by simp (maxSteps := 1000000) (disch := first | decide | omega | (simp only [go_sem]; first | done | omega)) only [go_sem, Int.reduceToNat, Nat.reduceMul, Nat.reduceAdd, Nat.reduceSub, ↓EU_region, ↓EU_draw, g6], by simp (maxSteps := 1000000) (disch := first | decide | omega | (simp only [go_sem]; first | done | omega)) only [go_sem, Int.reduceToNat, Nat.reduceMul, Nat.reduceAdd, Nat.reduceSub, ↓EU_region, ↓EU_draw, g27], by simp (maxSteps := 1000000) (disch := first | decide | omega | (simp only [go_sem]; first | done | omega)) only [go_sem, Int.reduceToNat, Nat.reduceMul, Nat.reduceAdd, Nat.reduceSub, ↓EU_region, ↓EU_draw, g28], by simp (maxSteps := 1000000) (disch := first | decide | omega | (simp only [go_sem]; first | done | omega)) only [go_sem, Int.reduceToNat, Nat.reduceMul, Nat.reduceAdd, Nat.reduceSub, ↓EU_region, ↓EU_draw], ⟨Nat.le_trans x2.le hm2.le, fun j hj => (hm2.old j (Nat.lt_of_lt_of_le hj x2.le) (by omega)).trans (x2.old j hj)⟩, by simp (maxSteps := 1000000) (disch := first | decide | omega | (simp only [go_sem]; first | done | omega)) only [go_sem, Int.reduceToNat, Nat.reduceMul, Nat.reduceAdd, Nat.reduceSub, ↓EU_region, ↓EU_draw, hR'], by simp (maxSteps := 1000000) (disch := first | decide | omega | (simp only [go_sem]; first | done | omega)) only [go_sem, Int.reduceToNat, Nat.reduceMul, Nat.reduceAdd, Nat.reduceSub, ↓EU_region, ↓EU_draw], hov'.mod (Mod.set (S := fun j => j = h1.next) (Mod.refl _ _) _ _ (fun _ => rfl)) (fun j hj q => by have := hfv' j hj; omega), hfv', by rw [next_set]; omega⟩
        · simp only [decide_eq_false_iff_not] at b1
          have : i = l.length := by omega
          subst this
          rw [List.take_length] at hov
          simp (maxSteps := 1000000) (disch := first | decide | omega | (simp only [go_sem]; first | done | omega)) only [go_sem, Int.reduceToNat, Nat.reduceMul, Nat.reduceAdd, Nat.reduceSub, ↓EU_region, ↓EU_draw]
          exact ⟨_, _, v, rfl, trivial, by simp (maxSteps := 1000000) (disch := first | decide | omega | (simp only [go_sem]; first | done | omega)) only [go_sem, Int.reduceToNat, Nat.reduceMul, Nat.reduceAdd, Nat.reduceSub, ↓EU_region, ↓EU_draw, g4], by simp (maxSteps := 1000000) (disch := first | decide | omega | (simp only [go_sem]; first | done | omega)) only [go_sem, Int.reduceToNat, Nat.reduceMul, Nat.reduceAdd, Nat.reduceSub, ↓EU_region, ↓EU_draw, g6], x2, hR, hB, hov, hfv, hn2⟩
      · refine ⟨0, _, _, _, rfl, rfl, by omega, by simp (maxSteps := 1000000) (disch := first | decide | omega | (simp only [go_sem]; first | done | omega)) only [go_sem, Int.reduceToNat, Nat.reduceMul, Nat.reduceAdd, Nat.reduceSub, ↓EU_region, ↓EU_draw], by simp (maxSteps := 1000000) (disch := first | decide | omega | (simp only [go_sem]; first | done | omega)) only [go_sem, Int.reduceToNat, Nat.reduceMul, Nat.reduceAdd, Nat.reduceSub, ↓EU_region, ↓EU_draw], by simp (maxSteps := 1000000) (disch := first | decide | omega | (simp only [go_sem]; first | done | omega)) only [go_sem, Int.reduceToNat, Nat.reduceMul, Nat.reduceAdd, Nat.reduceSub, ↓EU_region, ↓EU_draw], by simp (maxSteps := 1000000) (disch := first | decide | omega | (simp only [go_sem]; first | done | omega)) only [go_sem, Int.reduceToNat, Nat.reduceMul, Nat.reduceAdd, Nat.reduceSub, ↓EU_region, ↓EU_draw], by simp (maxSteps := 1000000) (disch := first | decide | omega | (simp only [go_sem]; first | done | omega)) only [go_sem, Int.reduceToNat, Nat.reduceMul, Nat.reduceAdd, Nat.reduceSub, ↓EU_region, ↓EU_draw], by simp (maxSteps := 1000000) (disch := first | decide | omega | (simp only [go_sem]; first | done | omega)) only [go_sem, Int.reduceToNat, Nat.reduceMul, Nat.reduceAdd, Nat.reduceSub, ↓EU_region, ↓EU_draw]; rfl, xh2.set _ _ (by omega), by simp (maxSteps := 1000000) (disch := first | decide | omega | (simp only [go_sem]; first | done | omega)) only [go_sem, Int.reduceToNat, Nat.reduceMul, Nat.reduceAdd, Nat.reduceSub, ↓EU_region, ↓EU_draw, hr2], by simp (maxSteps := 1000000) (disch := first | decide | omega | (simp only [go_sem]; first | done | omega)) only [go_sem, Int.reduceToNat, Nat.reduceMul, Nat.reduceAdd, Nat.reduceSub, ↓EU_region, ↓EU_draw], OW.nil, Fresh.nil _ _ _, by simp only [next_push, next_set]; omega⟩
      · omega
      · clear hf2 hr2 hl2 x2 xh2 hn2 h2
        rintro ⟨q, _⟩ ⟨tm, h2, v, rfl, rfl, g4, g6, x2, hR, hB, hov, hfv, hn2⟩
        obtain ⟨av, kv, rfl⟩ := hov.val
        simp (maxSteps := 1000000) (disch := first | decide | omega | (simp only [go_sem]; first | done | omega)) only [go_sem, Int.reduceToNat, Nat.reduceMul, Nat.reduceAdd, Nat.reduceSub, ↓EU_region, ↓EU_draw, g4, g6, hR, hB]
        exact ⟨x2.set _ _ (by omega), _, rfl, hov.mod (Mod.set (S := fun j => j = h.next + 1) (Mod.refl _ _) _ _ (fun _ => rfl)) (fun j hj q => by have := hfv j hj; omega), hfv.mono (by omega)⟩
end Go.Proofs.YtddgcakiceodgaaGreat.EV
