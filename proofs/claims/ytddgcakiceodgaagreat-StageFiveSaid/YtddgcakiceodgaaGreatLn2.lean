/- Contracts: owed.NewLine, owed.SeedLine, (*owed.Line).Form. No condition. -/
import Derived.Test.YtddgcakiceodgaaGreatLn1
import Derived.Test.YtddgcakiceodgaaGreatOwn
namespace Go.Proofs.YtddgcakiceodgaaGreat.EV
open Go Go.Proofs
set_option linter.unusedVariables false
set_option linter.unusedSimpArgs false
set_option maxRecDepth 100000
set_option pp.deepTerms false
set_option pp.deepTerms.threshold 20
/-- a base that may be -/
noncomputable def bgood (base : Int) : Bool := decide (base ≤ 1152921504606846976) && decide (-1152921504606846976 ≤ base)
theorem bgood_facts {b : Int} (h : bgood b = true) : -1152921504606846976 ≤ b ∧ b ≤ 1152921504606846976 := by
  unfold bgood at h
  simp only [Bool.and_eq_true, decide_eq_true_eq] at h
  omega
theorem bgood_f {b : Int} (h : bgood b = false) : 1152921504606846976 < b ∨ b < -1152921504606846976 := by
  unfold bgood at h
  simp only [Bool.and_eq_false_iff, decide_eq_false_iff_not] at h
  omega
noncomputable def lineV (base cur : Int) (s : Value) : Value := .agg ⟨[.int .i64 base, .int .i64 cur, s]⟩
noncomputable def noS : Value := .slice none 0 1
theorem newLine_ev (base : Int) (h : Heap) : Pu (EF Tryz.prog O0 71 [.int .i64 base] h) h (if bgood base then .tuple ⟨[lineV base (-1) noS, .int .i64 0]⟩ else .tuple ⟨[lineV 0 0 noS, .int .i64 1]⟩) := by
  unfold Pu lineV noS
  rw [EF_body (O := O0) (by kernel_rfl) Tryz.func71 rfl (rs := [.cell 2 132, .tmp 3]) rfl (bad := []) (by kernel_rfl) _ _ (m := 13) rfl]
  simp (maxSteps := 1000000) (disch := first | decide | omega | (simp only [go_sem]; first | done | omega)) only [go_sem, Int.reduceToNat, Nat.reduceMul, Nat.reduceAdd, Nat.reduceSub, ↓EU_region, ↓EU_draw]
  repeat' (((repeat refine WPo_ob ?_); (first | refine WPo_cond (fun hb => ?_) (fun hb => ?_) | refine WPo_gard (fun hb => ?_) (fun hb => ?_) | refine WPo_gardT (fun hb => ?_) (fun hb => ?_)) <;> (try simp only [Bool.not_eq_true', Bool.not_eq_false'] at hb)) <;> (simp (maxSteps := 1000000) (disch := first | decide | omega | (simp only [go_sem]; first | done | omega)) only [go_sem, Int.reduceToNat, Nat.reduceMul, Nat.reduceAdd, Nat.reduceSub, ↓EU_region, ↓EU_draw, hb]))
  all_goals (refine ⟨?_, by repeat (first | exact Ext.refl _ | assumption | refine Ext.push ?_ _ | refine Ext.set ?_ _ _ (by first | omega | (simp only [next_push, next_set]; omega)))⟩)
  all_goals (unfold bgood; simp only [Bool.and_eq_true, decide_eq_true_eq, decide_eq_false_iff_not] at *)
  all_goals first | (rw [if_pos (by omega)]; done) | (rw [if_neg (by omega)]; done)
/-- what a point is owed -/
noncomputable def itP (base : Int) (p : Pnt) : Item := ⟨p.id, p.w, base - p.v⟩
/-- a point of what is owed -/
noncomputable def ptI (base : Int) (x : Item) : Pnt := dayP ⟨x.id, x.w, base - x.lag, 0⟩
theorem itP_ptI (base : Int) (x : Item) : itP base (ptI base x) = x := by
  unfold itP ptI dayP
  cases x
  simp
  omega
theorem map_itP_ptI (base : Int) (l : List Item) : (l.map (ptI base)).map (itP base) = l := by
  rw [List.map_map]
  conv => rhs; rw [← List.map_id l]
  exact List.map_congr_left fun x _ => itP_ptI base x
set_option maxHeartbeats 1000000 in
theorem lform_ev (base cur : Int) (l : List Pnt) (s : Value) (b : Nat) (h : Heap) (hb : b < h.next) (hc : h.get b = .cells [.int .i64 base, .int .i64 cur, s] 0) (hs : SL pntE 4 h s l) (hl : l.length < 900000) (hw : ∀ p ∈ l, -9223372036854775808 ≤ base - p.v ∧ base - p.v < 9223372036854775808) :
    WPo (EF Tryz.prog O0 129 [ptr b 0] h) fun q => ∃ v, q.1 = formV cur v ∧ OW itemE 3 q.2 v (l.map (itP base)) ∧ Fresh h.next v ∧ Ext h q.2 := by
  rw [EF_body (O := O0) (by kernel_rfl) Tryz.func129 rfl (rs := [.cell 2 24]) rfl (bad := [5]) (by kernel_rfl) _ _ (m := 39) rfl]
  obtain ⟨a, c, hv⟩ := hs.val
  subst hv
  unfold formV
  simp (maxSteps := 1000000) (disch := first | decide | omega | (simp only [go_sem]; first | done | omega)) only [go_sem, Int.reduceToNat, Nat.reduceMul, Nat.reduceAdd, Nat.reduceSub, ↓EU_region, ↓EU_draw, hc]
  repeat refine WPo_ob ?_
  refine (LP_rule (fun m st => ∃ (i : Nat) (tm : Fr) (h2 : Heap) (v : Value), st = ⟨tm, h2, []⟩ ∧ m = l.length - i ∧ i ≤ l.length ∧ Fr.get tm 0 = ptr b 0 ∧ Fr.get tm 2 = ptr h.next 0 ∧ Fr.get tm 3 = ptr (h.next + 1) 0 ∧ Fr.get tm 14 = .slice a l.length c ∧ Fr.get tm 15 = .int .i64 l.length ∧ Fr.get tm 16 = .int .i64 i ∧ Ext h h2 ∧ (∃ w, h2.get h.next = .cells [.int .i64 0, w] 0) ∧ h2.get (h.next + 1) = .cells [.int .i64 cur, v] 0 ∧ OW itemE 3 h2 v ((l.take i).map (itP base)) ∧ Fresh (h.next + 1 + 1) v ∧ h.next + 1 < h2.next)
    (fun q => ∃ tm h2 v, q.2 = ⟨tm, h2, []⟩ ∧ q.1 = .exit 0 ∧ Fr.get tm 2 = ptr h.next 0 ∧ Fr.get tm 3 = ptr (h.next + 1) 0 ∧ Ext h h2 ∧ (∃ w, h2.get h.next = .cells [.int .i64 0, w] 0) ∧ h2.get (h.next + 1) = .cells [.int .i64 cur, v] 0 ∧ OW itemE 3 h2 v (l.map (itP base)) ∧ Fresh (h.next + 1 + 1) v ∧ h.next + 1 < h2.next) ?_ l.length _ _ ?_ ?_).mono ?_
  · rintro m _ ⟨i, tm, h2, v, rfl, rfl, hi, g0, g2, g3, g14, g15, g16, x2, ⟨w, hw0⟩, hB, hov, hfv, hn2⟩
    have hc2 := (x2.old b hb).trans hc
    simp (maxSteps := 1000000) (disch := first | decide | omega | (simp only [go_sem]; first | done | omega)) only [go_sem, Int.reduceToNat, Nat.reduceMul, Nat.reduceAdd, Nat.reduceSub, ↓EU_region, ↓EU_draw, g14, g15, g16]
    ((repeat refine WPo_ob ?_); (first | refine WPo_cond (fun b1 => ?_) (fun b1 => ?_) | refine WPo_gard (fun b1 => ?_) (fun b1 => ?_) | refine WPo_gardT (fun b1 => ?_) (fun b1 => ?_)) <;> (try simp only [Bool.not_eq_true', Bool.not_eq_false'] at b1))
    · have b1' := b1
      simp only [decide_eq_true_eq] at b1'
      have hi' : i < l.length := by omega
      obtain ⟨x, hx⟩ : ∃ x, l[i]? = some x := ⟨_, List.getElem?_eq_getElem hi'⟩
      have hwx := hw x (List.mem_of_getElem? hx)
      have hww : wrapF .i64 (base - x.v) = base - x.v := wrap64 hwx
      obtain ⟨b', o, c', e, hb', hrd, hr⟩ := (hs.ext x2).at hx rfl
      cases e
      unfold pntE at hrd
      simp (maxSteps := 1000000) (disch := first | decide | omega | (simp only [go_sem]; first | done | omega)) only [go_sem, Int.reduceToNat, Nat.reduceMul, Nat.reduceAdd, Nat.reduceSub, g14, g15, g16, hrd]
      (first | rw [EU_region] | rw [EU_draw _ _ rfl]); simp (maxSteps := 1000000) (disch := first | decide | omega | (simp only [go_sem]; first | done | omega)) only [go_sem, Int.reduceToNat, Nat.reduceMul, Nat.reduceAdd, Nat.reduceSub, g14, g15, g16, hrd]
      rw [EU_bad _ _ rfl, EC_tab (tab := [(false, none), (false, (some (0, 1))), (false, none), (false, none), (false, none), (false, none), (false, none), (false, none), (false, none), (false, none), (false, none), (false, none), (false, none), (false, none), (true, none), (true, none), (false, none), (true, none)]) (by kernel_rfl)]
      obtain ⟨av, kv, hvv⟩ := hov.val
      subst hvv
      simp (maxSteps := 1000000) (disch := first | decide | omega | (simp only [go_sem]; first | done | omega)) only [go_sem, Int.reduceToNat, Nat.reduceMul, Nat.reduceAdd, Nat.reduceSub, ↓EU_region, ↓EU_draw, g0, g2, g3, g14, g15, g16, hB, hc2, hww, hrd]
      repeat refine WPo_ob ?_
      have hlit := OW.lit itemE_len (h2.push (.cells (pntE x) 0)) [itP base x]
      rw [List.flatMap_cons, List.flatMap_nil, List.append_nil] at hlit
      unfold itemE itP at hlit
      have hm1 : ∀ j, blkOf (.slice av ((l.take i).map (itP base)).length kv) j → h.next ≤ j := fun j hj => by have := hfv j hj; omega
      have hsn : (l.take (i + 1)).map (itP base) = (l.take i).map (itP base) ++ [itP base x] := by rw [List.take_add_one, hx, List.map_append]; rfl
      refine append_gr (l := (l.take i).map (itP base)) (l' := [itP base x]) fc_ap_22_22 itemE_len (by decide) itemE_scal (hov.ext (((Ext.refl h2).push _).push _)) hlit.sl (by rw [List.length_map, List.length_take]; simp only [List.length_cons, List.length_nil]; omega) (by rw [List.length_map, List.length_take]; simp only [List.length_cons, List.length_nil]; omega) fun v' h3 hov' gr => ?_
      rw [← hsn] at hov'
      have hnv : ∀ k, k ≤ h.next + 1 → ¬ blkOf (.slice av ((l.take i).map (itP base)).length kv) k := fun k hk q => by have := hfv _ q; omega
      have hk3 : ∀ k, k ≤ h.next + 1 → h3.get k = h2.get k := fun k hk => by rw [gr.old _ (by simp only [next_push]; omega) (hnv k hk), get_push_old _ (by simp only [next_push]; omega), get_push_old _ (by omega)]
      have hB' := (hk3 (h.next + 1) (by omega)).trans hB
      have hw' := (hk3 h.next (by omega)).trans hw0
      have hn' := gr.le
      simp only [next_push] at hn'
      have hfv' : Fresh (h.next + 1 + 1) v' := gr.fresh hfv (by simp only [next_push]; omega)
      obtain ⟨av', kv', hvv'⟩ := hov'.val
      subst hvv'
      simp (maxSteps := 1000000) (disch := first | decide | omega | (simp only [go_sem]; first | done | omega)) only [go_sem, Int.reduceToNat, Nat.reduceMul, Nat.reduceAdd, Nat.reduceSub, ↓EU_region, ↓EU_draw, g0, g2, g3, g14, g15, g16, hB, hB', hov.veq]
      have hm2 : Mod (fun j => h.next ≤ j) h2 (h3.set (h.next + 1) (.cells [.int .i64 cur, .slice av' ((l.take (i + 1)).map (itP base)).length kv'] 0)) := (((((Mod.refl _ h2).push _).push _).trans (gr.mod.mono fun j _ hj => hm1 j hj))).set _ _ fun _ => by omega
      refine ⟨_, by omega, i + 1, _, _, _, rfl, rfl, by omega, by simp (maxSteps := 1000000) (disch := first | decide | omega | (simp only [go_sem]; first | done | omega)) only [go_sem, Int.reduceToNat, Nat.reduceMul, Nat.reduceAdd, Nat.reduceSub, ↓EU_region, ↓EU_draw, g0], by simp (maxSteps := 1000000) (disch := first | decide | omega | (simp only [go_sem]; first | done | omega)) only [go_sem, Int.reduceToNat, Nat.reduceMul, Nat.reduceAdd, Nat.reduceSub, ↓EU_region, ↓EU_draw, g2], by simp (maxSteps := 1000000) (disch := first | decide | omega | (simp only [go_sem]; first | done | omega)) only [go_sem, Int.reduceToNat, Nat.reduceMul, Nat.reduceAdd, Nat.reduceSub, ↓EU_region, ↓EU_draw, g3], by simp (maxSteps := 1000000) (disch := first | decide | omega | (simp only [go_sem]; first | done | omega)) only [go_sem, Int.reduceToNat, Nat.reduceMul, Nat.reduceAdd, Nat.reduceSub, ↓EU_region, ↓EU_draw, g14], by simp (maxSteps := 1000000) (disch := first | decide | omega | (simp only [go_sem]; first | done | omega)) only [go_sem, Int.reduceToNat, Nat.reduceMul, Nat.reduceAdd, Nat.reduceSub, ↓EU_region, ↓EU_draw, g15], by simp (maxSteps := 1000000) (disch := first | decide | omega | (simp only [go_sem]; first | done | omega)) only [go_sem, Int.reduceToNat, Nat.reduceMul, Nat.reduceAdd, Nat.reduceSub, ↓EU_region, ↓EU_draw], ⟨Nat.le_trans x2.le hm2.le, fun j hj => (hm2.old j (Nat.lt_of_lt_of_le hj x2.le) (by omega)).trans (x2.old j hj)⟩, ⟨w, by simp (maxSteps := 1000000) (disch := first | decide | omega | (simp only [go_sem]; first | done | omega)) only [go_sem, Int.reduceToNat, Nat.reduceMul, Nat.reduceAdd, Nat.reduceSub, ↓EU_region, ↓EU_draw, hw']⟩, by simp (maxSteps := 1000000) (disch := first | decide | omega | (simp only [go_sem]; first | done | omega)) only [go_sem, Int.reduceToNat, Nat.reduceMul, Nat.reduceAdd, Nat.reduceSub, ↓EU_region, ↓EU_draw], hov'.mod (Mod.set (S := fun j => j = h.next + 1) (Mod.refl _ _) _ _ (fun _ => rfl)) (fun j hj q => by have := hfv' j hj; omega), hfv', by rw [next_set]; omega⟩
    · simp only [decide_eq_false_iff_not] at b1
      have : i = l.length := by omega
      subst this
      rw [List.take_length] at hov
      simp (maxSteps := 1000000) (disch := first | decide | omega | (simp only [go_sem]; first | done | omega)) only [go_sem, Int.reduceToNat, Nat.reduceMul, Nat.reduceAdd, Nat.reduceSub, ↓EU_region, ↓EU_draw]
      exact ⟨_, _, v, rfl, trivial, by simp (maxSteps := 1000000) (disch := first | decide | omega | (simp only [go_sem]; first | done | omega)) only [go_sem, Int.reduceToNat, Nat.reduceMul, Nat.reduceAdd, Nat.reduceSub, ↓EU_region, ↓EU_draw, g2], by simp (maxSteps := 1000000) (disch := first | decide | omega | (simp only [go_sem]; first | done | omega)) only [go_sem, Int.reduceToNat, Nat.reduceMul, Nat.reduceAdd, Nat.reduceSub, ↓EU_region, ↓EU_draw, g3], x2, ⟨w, hw0⟩, hB, hov, hfv, hn2⟩
  · refine ⟨0, _, _, _, rfl, rfl, by omega, by simp (maxSteps := 1000000) (disch := first | decide | omega | (simp only [go_sem]; first | done | omega)) only [go_sem, Int.reduceToNat, Nat.reduceMul, Nat.reduceAdd, Nat.reduceSub, ↓EU_region, ↓EU_draw], by simp (maxSteps := 1000000) (disch := first | decide | omega | (simp only [go_sem]; first | done | omega)) only [go_sem, Int.reduceToNat, Nat.reduceMul, Nat.reduceAdd, Nat.reduceSub, ↓EU_region, ↓EU_draw], by simp (maxSteps := 1000000) (disch := first | decide | omega | (simp only [go_sem]; first | done | omega)) only [go_sem, Int.reduceToNat, Nat.reduceMul, Nat.reduceAdd, Nat.reduceSub, ↓EU_region, ↓EU_draw], by simp (maxSteps := 1000000) (disch := first | decide | omega | (simp only [go_sem]; first | done | omega)) only [go_sem, Int.reduceToNat, Nat.reduceMul, Nat.reduceAdd, Nat.reduceSub, ↓EU_region, ↓EU_draw], by simp (maxSteps := 1000000) (disch := first | decide | omega | (simp only [go_sem]; first | done | omega)) only [go_sem, Int.reduceToNat, Nat.reduceMul, Nat.reduceAdd, Nat.reduceSub, ↓EU_region, ↓EU_draw], by simp (maxSteps := 1000000) (disch := first | decide | omega | (simp only [go_sem]; first | done | omega)) only [go_sem, Int.reduceToNat, Nat.reduceMul, Nat.reduceAdd, Nat.reduceSub, ↓EU_region, ↓EU_draw]; rfl, (((Ext.refl h).push _).push _).set _ _ (by omega), ⟨.slice none 0 1, by simp (maxSteps := 1000000) (disch := first | decide | omega | (simp only [go_sem]; first | done | omega)) only [go_sem, Int.reduceToNat, Nat.reduceMul, Nat.reduceAdd, Nat.reduceSub, ↓EU_region, ↓EU_draw]⟩, by simp (maxSteps := 1000000) (disch := first | decide | omega | (simp only [go_sem]; first | done | omega)) only [go_sem, Int.reduceToNat, Nat.reduceMul, Nat.reduceAdd, Nat.reduceSub, ↓EU_region, ↓EU_draw], OW.nil, Fresh.nil _ _ _, by simp only [next_push, next_set]; omega⟩
  · omega
  · rintro ⟨q, _⟩ ⟨tm, h2, v, rfl, rfl, g2, g3, x2, ⟨w, hw0⟩, hB, hov, hfv, hn2⟩
    obtain ⟨av, kv, rfl⟩ := hov.val
    simp (maxSteps := 1000000) (disch := first | decide | omega | (simp only [go_sem]; first | done | omega)) only [go_sem, Int.reduceToNat, Nat.reduceMul, Nat.reduceAdd, Nat.reduceSub, ↓EU_region, ↓EU_draw, g2, g3, hw0, hB]
    exact ⟨_, rfl, hov.mod (Mod.set (S := fun j => j = h.next) (Mod.refl _ _) _ _ (fun _ => rfl)) (fun j hj q => by have := hfv j hj; omega), hfv.mono (by omega), x2.set _ _ (by omega)⟩
end Go.Proofs.YtddgcakiceodgaaGreat.EV
