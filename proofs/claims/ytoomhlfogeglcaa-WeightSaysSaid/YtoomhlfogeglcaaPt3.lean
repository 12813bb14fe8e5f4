/- Contracts: the reference's Parts. No condition. -/
import Derived.Test.YtoomhlfogeglcaaPt2
namespace Go.Proofs.Ytoomhlfogeglcaa.EV
open Go Go.Proofs
set_option linter.unusedVariables false
set_option linter.unusedSimpArgs false
set_option maxRecDepth 100000
set_option pp.deepTerms false
set_option pp.deepTerms.threshold 20
noncomputable def bE (b : Bool) : List Value := [.bool b]
theorem bE_len (b : Bool) : (bE b).length = 1 := rfl
theorem bE_scal (b : Bool) : (bE b).all scal = true := rfl
theorem zrow_b (n : Nat) : zeroRow [.bool false] n = (List.replicate n false).flatMap bE := by
  induction n with
  | zero => rw [zeroRow_z]; rfl
  | succ n ih => rw [zeroRow_s, ih, List.replicate_succ, List.flatMap_cons]; rfl
/-- the least of those not done is the next in order -/
theorem next_least {F : Int → Int} {O : List Int} {k p : Nat} (pO : O.Perm (idxL k)) (sO : SrtOn F O 0 k) (hp : p < k) {u : Nat} (hu : u < k) (h1 : ¬ (u : Int) ∈ O.take p) (h2 : ∀ j : Nat, j < k → ¬ (j : Int) ∈ O.take p → j = u ∨ ltF F (u : Int) (j : Int)) : O[p]? = some (u : Int) := by
  have lO : O.length = k := by rw [pO.length_eq, idxL_len]
  obtain ⟨e, he⟩ : ∃ e, O[p]? = some e := ⟨_, List.getElem?_eq_getElem (by omega)⟩
  obtain ⟨w, hw, rfl⟩ := idxL_mem (pO.mem_iff.1 (List.mem_of_getElem? he))
  have nd : O.Nodup := pO.nodup_iff.2 (idxL_nodup _)
  have hnw : ¬ (w : Int) ∈ O.take p := fun hin => by
    obtain ⟨q, hq⟩ := List.getElem?_of_mem hin
    have hql := (List.getElem?_eq_some_iff.1 hq).1
    rw [List.length_take] at hql
    rw [List.getElem?_take_of_lt (by omega)] at hq
    have := (List.getElem?_inj (by omega) nd).1 (hq.trans he.symm)
    omega
  rcases h2 w hw hnw with e1 | e1
  · rw [← e1]; exact he
  · have hm : (u : Int) ∈ O := pO.mem_iff.2 (List.mem_of_getElem? (idxL_get hu))
    obtain ⟨q, hq⟩ := List.getElem?_of_mem hm
    have hql := (List.getElem?_eq_some_iff.1 hq).1
    have hqp : p ≤ q := by
      rcases Nat.lt_or_ge q p with g | g
      · exact absurd (List.mem_of_getElem? (by rw [List.getElem?_take_of_lt g]; exact hq)) h1
      · exact g
    by_cases e2 : q = p
    · subst e2
      exact hq
    · have := sO p q _ _ (Nat.zero_le _) (by omega) (by omega) he hq
      unfold ltF at *
      omega
set_option maxHeartbeats 16000000 in
theorem rparts_yes (l : List Int) (s : Value) (n : Int) (h : Heap) (hs : SL (intE .i64) 1 h s l) (hok : tot l = (sumI l, true)) (hl : l.length ≤ 64) (hne : 0 < l.length) (hg : l.all wgood = true) (hn : 0 ≤ n ∧ n ≤ 1099511627776) {O : List Int} {left : Nat} (hleft : (left : Int) = n - sumI (shL l n)) (hlk : left ≤ l.length) (pO : O.Perm (idxL l.length)) (sO : SrtOn (fun x => (ofL l n).getD x.toNat 0) O 0 l.length) :
    WPo (EF Try.prog O0 22 [s, .int .i64 n] h) fun q => ∃ Q : List Int, Q.length = l.length ∧ (∀ (i : Nat) (v : Int), (shL l n)[i]? = some v → Q[i]? = some (v + if (i : Int) ∈ O.take left then 1 else 0)) ∧ OW (intE .i64) 1 q.2 q.1 Q ∧ Ext h q.2 := by
  rw [EF_body (O := O0) (by kernel_rfl) Try.func22 rfl (rs := [.tmp 4]) rfl (bad := []) (by kernel_rfl) _ _ (m := 120) rfl]
  obtain ⟨a, c, hv⟩ := hs.val
  have ht := rtotal_ev l s h hs (by omega)
  rw [hok] at ht
  rw [hv] at ht ⊢
  have d1 : decide (n < 0) = false := decide_eq_false (by omega)
  have d2 : decide (n > 1099511627776) = false := decide_eq_false (by omega)
  have d3 : decide ((l.length : Int) = 0) = false := decide_eq_false (by omega)
  have hgd := sumI_good hg
  have hgw : ∀ w ∈ l, 1 ≤ w ∧ w ≤ 20 := fun w hw => wgood_facts (List.all_eq_true.1 hg w hw)
  have hmay : ∀ w ∈ l, wmay w (sumI l) n = true := fun w hw => wmay_of ⟨(hgw w hw).1, (hgw w hw).2, sumI_mem (fun x hx => (hgw x hx).1) hw, by omega, hn.1⟩
  have hsh : ∀ w ∈ l, 0 ≤ shareR w (sumI l) n ∧ shareR w (sumI l) n ≤ n := fun w hw => by
    have h1 := hmay w hw
    have h2 := mdR_may h1 (by omega)
    unfold shareR
    rw [h1, if_pos rfl]
    exact h2.2
  have hbd : ∀ x ∈ shL l n, 0 ≤ x ∧ x ≤ 1099511627776 := fun x hx => by
    unfold shL at hx
    obtain ⟨u, hu, rfl⟩ := List.mem_map.1 hx
    have := hsh u hu
    omega
  have lsh : (shL l n).length = l.length := List.length_map ..
  simp (maxSteps := 1000000) (disch := first | decide | omega | (simp only [go_sem]; first | done | omega)) only [go_sem, Int.reduceToNat, Nat.reduceMul, Nat.reduceAdd, Nat.reduceSub, ↓EU_region, ↓EU_draw, dec_t, dec_f, ht, d1, d2, d3]
  repeat refine WPo_ob ?_
  refine (LP_rule (fun m st => ∃ (i : Nat) (tm : Fr) (h' : Heap) (v : Value), st = ⟨tm, h', []⟩ ∧ m = l.length - i ∧ i ≤ l.length ∧ Fr.get tm 0 = .slice a l.length c ∧ Fr.get tm 1 = .int .i64 n ∧ Fr.get tm 5 = .int .i64 (sumI l) ∧ Fr.get tm 7 = v ∧ Fr.get tm 8 = .int .i64 (n - sumI ((shL l n).take i)) ∧ Fr.get tm 9 = .int .i64 (i : Int) ∧ OW (intE .i64) 1 h' v ((shL l n).take i) ∧ Fresh h.next v ∧ Ext h h')
    (fun q => ∃ (tm : Fr) (h' : Heap) (v : Value), q.2 = ⟨tm, h', []⟩ ∧ q.1 = .exit 0 ∧ Fr.get tm 0 = .slice a l.length c ∧ Fr.get tm 1 = .int .i64 n ∧ Fr.get tm 5 = .int .i64 (sumI l) ∧ Fr.get tm 7 = v ∧ Fr.get tm 8 = .int .i64 (left : Int) ∧ OW (intE .i64) 1 h' v (shL l n) ∧ Fresh h.next v ∧ Ext h h') ?_ l.length _ _ ?_ ?_).mono ?_
  · rintro m _ ⟨i, tm, h', v, rfl, hm, hi, g0, g1, g5, g7, g8, g9, ov, fv, xx⟩
    by_cases hq : i < l.length
    · have hmm : l.length - (i + 1) < m := by omega
      have d : decide ((i : Int) < (l.length : Int)) = true := decide_eq_true (by omega)
      have hwi : wrapF .i64 ((i : Int) + 1) = ((i + 1 : Nat) : Int) := by rw [wrap64 (by omega)]; rfl
      obtain ⟨w, hw⟩ : ∃ w, l[i]? = some w := ⟨_, List.getElem?_eq_getElem hq⟩
      have hwm := List.mem_of_getElem? hw
      obtain ⟨B, o, c', e, _, _, t0⟩ := (hs.ext xx).at hw rfl
      rw [hv] at e
      cases e
      have t0 := t0 0 _ rfl
      rw [add_z] at t0
      have hsE := rshare_ev w (sumI l) n h' (by have := hgw w hwm; omega) (by omega) (by omega)
      have s1 : (shL l n)[i]? = some (shareR w (sumI l) n) := by unfold shL; rw [List.getElem?_map, hw]; rfl
      have hswb := hsh w hwm
      generalize shareR w (sumI l) n = sw at *
      have til : ((shL l n).take i).length = i := by rw [List.length_take]; omega
      have etk : (shL l n).take (i + 1) = (shL l n).take i ++ [sw] := by rw [List.take_add_one, s1]; rfl
      have hb1 := sumI_bd ((shL l n).take i) fun x hx => hbd x (List.mem_of_mem_take hx)
      have wl : wrapF .i64 (n - sumI ((shL l n).take i) - sw) = n - sumI ((shL l n).take (i + 1)) := by
        rw [etk, sumI_snoc, wrap64 (by omega)]; omega
      obtain ⟨va, vc, hve⟩ := ov.val
      rw [hve] at g7
      simp (maxSteps := 1000000) (disch := first | decide | omega | (simp only [go_sem]; first | done | omega)) only [go_sem, Int.reduceToNat, Nat.reduceMul, Nat.reduceAdd, Nat.reduceSub, ↓EU_region, ↓EU_draw, g0, g1, g5, g7, g8, g9, d, t0]
      repeat refine WPo_ob ?_
      refine hsE.bind fun h2 x2 => ?_
      have ov2 := ov.ext x2
      rw [← hve]
      have hlit : SL (intE .i64) 1 (h2.push (.cells [.int .i64 sw] 1)) (.slice (some ⟨h2.next, 0, none⟩) 1 3) [sw] := (OW.lit i64_len h2 [sw]).sl
      simp (maxSteps := 1000000) (disch := first | decide | omega | (simp only [go_sem]; first | done | omega)) only [go_sem, Int.reduceToNat, Nat.reduceMul, Nat.reduceAdd, Nat.reduceSub, ↓EU_region, ↓EU_draw]
      repeat refine WPo_ob ?_
      refine append_gr (e := intE .i64) (l := (shL l n).take i) (l' := [sw]) fc_ap_30_30 i64_len (by decide) i64_scal (ov2.ext ((Ext.refl h2).push _)) hlit (by simp only [List.length_cons, List.length_nil]; omega) (by simp only [List.length_cons, List.length_nil]; omega) fun v3 h3 o3 gr => ?_
      rw [← etk] at o3
      have x3 : Ext h h3 := gr.ext0 ((xx.trans x2).push _) fv
      have f3 : Fresh h.next v3 := gr.fresh fv (by have := xx.le; have := x2.le; rw [next_push]; omega)
      have r1 : ((shL l n).take (i + 1))[i]? = some sw := by rw [List.getElem?_take_of_lt (Nat.lt_succ_self i)]; exact s1
      have til1 : ((shL l n).take (i + 1)).length = i + 1 := by rw [List.length_take]; omega
      obtain ⟨B2, o2, c2, e, _, _, t4⟩ := o3.sl.at r1 rfl
      subst e
      have t4 := t4 0 _ rfl
      rw [add_z] at t4
      rw [til1] at *
      simp (maxSteps := 1000000) (disch := first | decide | omega | (simp only [go_sem]; first | done | omega)) only [go_sem, Int.reduceToNat, Nat.reduceMul, Nat.reduceAdd, Nat.reduceSub, ↓EU_region, ↓EU_draw, g8, g9, t4, wl, hwi]
      exact ⟨l.length - (i + 1), hmm, i + 1, _, h3, _, rfl, rfl, hq, by simp (maxSteps := 1000000) (disch := first | decide | omega | (simp only [go_sem]; first | done | omega)) only [go_sem, Int.reduceToNat, Nat.reduceMul, Nat.reduceAdd, Nat.reduceSub, ↓EU_region, ↓EU_draw, g0], by simp (maxSteps := 1000000) (disch := first | decide | omega | (simp only [go_sem]; first | done | omega)) only [go_sem, Int.reduceToNat, Nat.reduceMul, Nat.reduceAdd, Nat.reduceSub, ↓EU_region, ↓EU_draw, g1], by simp (maxSteps := 1000000) (disch := first | decide | omega | (simp only [go_sem]; first | done | omega)) only [go_sem, Int.reduceToNat, Nat.reduceMul, Nat.reduceAdd, Nat.reduceSub, ↓EU_region, ↓EU_draw, g5], by simp (maxSteps := 1000000) (disch := first | decide | omega | (simp only [go_sem]; first | done | omega)) only [go_sem, Int.reduceToNat, Nat.reduceMul, Nat.reduceAdd, Nat.reduceSub, ↓EU_region, ↓EU_draw], by simp (maxSteps := 1000000) (disch := first | decide | omega | (simp only [go_sem]; first | done | omega)) only [go_sem, Int.reduceToNat, Nat.reduceMul, Nat.reduceAdd, Nat.reduceSub, ↓EU_region, ↓EU_draw], by simp (maxSteps := 1000000) (disch := first | decide | omega | (simp only [go_sem]; first | done | omega)) only [go_sem, Int.reduceToNat, Nat.reduceMul, Nat.reduceAdd, Nat.reduceSub, ↓EU_region, ↓EU_draw], o3, f3, x3⟩
    · have d : decide ((i : Int) < (l.length : Int)) = false := decide_eq_false (by omega)
      obtain rfl : i = l.length := by omega
      have e1 : (shL l n).take l.length = shL l n := List.take_of_length_le (by omega)
      rw [e1] at g8 ov
      rw [← hleft] at g8
      simp (maxSteps := 1000000) (disch := first | decide | omega | (simp only [go_sem]; first | done | omega)) only [go_sem, Int.reduceToNat, Nat.reduceMul, Nat.reduceAdd, Nat.reduceSub, ↓EU_region, ↓EU_draw, g0, g9, d]
      exact ⟨_, h', v, rfl, trivial, by simp (maxSteps := 1000000) (disch := first | decide | omega | (simp only [go_sem]; first | done | omega)) only [go_sem, Int.reduceToNat, Nat.reduceMul, Nat.reduceAdd, Nat.reduceSub, ↓EU_region, ↓EU_draw, g0], by simp (maxSteps := 1000000) (disch := first | decide | omega | (simp only [go_sem]; first | done | omega)) only [go_sem, Int.reduceToNat, Nat.reduceMul, Nat.reduceAdd, Nat.reduceSub, ↓EU_region, ↓EU_draw, g1], by simp (maxSteps := 1000000) (disch := first | decide | omega | (simp only [go_sem]; first | done | omega)) only [go_sem, Int.reduceToNat, Nat.reduceMul, Nat.reduceAdd, Nat.reduceSub, ↓EU_region, ↓EU_draw, g5], by simp (maxSteps := 1000000) (disch := first | decide | omega | (simp only [go_sem]; first | done | omega)) only [go_sem, Int.reduceToNat, Nat.reduceMul, Nat.reduceAdd, Nat.reduceSub, ↓EU_region, ↓EU_draw, g7], by simp (maxSteps := 1000000) (disch := first | decide | omega | (simp only [go_sem]; first | done | omega)) only [go_sem, Int.reduceToNat, Nat.reduceMul, Nat.reduceAdd, Nat.reduceSub, ↓EU_region, ↓EU_draw, g8], ov, fv, xx⟩
  · exact ⟨0, _, h, .slice none 0 1, rfl, rfl, Nat.zero_le _, by simp (maxSteps := 1000000) (disch := first | decide | omega | (simp only [go_sem]; first | done | omega)) only [go_sem, Int.reduceToNat, Nat.reduceMul, Nat.reduceAdd, Nat.reduceSub, ↓EU_region, ↓EU_draw], by simp (maxSteps := 1000000) (disch := first | decide | omega | (simp only [go_sem]; first | done | omega)) only [go_sem, Int.reduceToNat, Nat.reduceMul, Nat.reduceAdd, Nat.reduceSub, ↓EU_region, ↓EU_draw], by simp (maxSteps := 1000000) (disch := first | decide | omega | (simp only [go_sem]; first | done | omega)) only [go_sem, Int.reduceToNat, Nat.reduceMul, Nat.reduceAdd, Nat.reduceSub, ↓EU_region, ↓EU_draw], by simp (maxSteps := 1000000) (disch := first | decide | omega | (simp only [go_sem]; first | done | omega)) only [go_sem, Int.reduceToNat, Nat.reduceMul, Nat.reduceAdd, Nat.reduceSub, ↓EU_region, ↓EU_draw], by simp (maxSteps := 1000000) (disch := first | decide | omega | (simp only [go_sem]; first | done | omega)) only [go_sem, Int.reduceToNat, Nat.reduceMul, Nat.reduceAdd, Nat.reduceSub, ↓EU_region, ↓EU_draw]; exact congrArg (Value.int .i64) (Int.sub_zero n).symm, by simp (maxSteps := 1000000) (disch := first | decide | omega | (simp only [go_sem]; first | done | omega)) only [go_sem, Int.reduceToNat, Nat.reduceMul, Nat.reduceAdd, Nat.reduceSub, ↓EU_region, ↓EU_draw]; rfl, OW.nil, Fresh.nil _ _ _, Ext.refl _⟩
  · omega
  rintro ⟨_, _⟩ ⟨tm, h', v, rfl, rfl, g0, g1, g5, g7, g8, ov, fv, xx⟩
  have hF : ∀ (i : Nat) (w : Int), l[i]? = some w → (ofL l n).getD ((i : Int)).toNat 0 = wrapF .i64 (wrapF .i64 (shareR w (sumI l) n * sumI l) - wrapF .i64 (n * w)) := fun i w hw => by
    have e1 : (ofL l n)[i]? = some (offR w (sumI l) n (shareR w (sumI l) n)) := by unfold ofL; rw [List.getElem?_map, hw]; rfl
    rw [Int.toNat_natCast, List.getD_eq_getElem?_getD, e1]
    show offR _ _ _ _ = _
    unfold offR
    rw [hmay w (List.mem_of_getElem? hw), if_pos rfl]
  have hSH : ∀ (i : Nat) (w : Int), l[i]? = some w → (shL l n)[i]? = some (shareR w (sumI l) n) := fun i w hw => by unfold shL; rw [List.getElem?_map, hw]; rfl
  have lO : O.length = l.length := by rw [pO.length_eq, idxL_len]
  have nd : O.Nodup := pO.nodup_iff.2 (idxL_nodup _)
  generalize hFF : (fun x : Int => (ofL l n).getD x.toNat 0) = F at *
  have hF' : ∀ (i : Nat) (w : Int), l[i]? = some w → F (i : Int) = wrapF .i64 (wrapF .i64 (shareR w (sumI l) n * sumI l) - wrapF .i64 (n * w)) := fun i w hw => by
    rw [← hFF]
    exact hF i w hw
  obtain ⟨va, vc, hve⟩ := ov.val
  rw [lsh] at hve
  have xd : Ext h' (h'.push (.cells (zeroRow [.bool false] l.length) 1)) := (Ext.refl h').push _
  have ndx : (h'.push (.cells (zeroRow [.bool false] l.length) 1)).next = h'.next + 1 := next_push _ _
  have bd : (h'.push (.cells (zeroRow [.bool false] l.length) 1)).get h'.next = .cells ((List.replicate l.length false).flatMap bE) 1 := by rw [← zrow_b]; exact get_push_new _ _
  have lrp : (List.replicate l.length false).length = l.length := List.length_replicate
  have od : OW bE 1 (h'.push (.cells (zeroRow [.bool false] l.length) 1)) (.slice (some ⟨h'.next, 0, none⟩) l.length (2 * l.length + 1)) (List.replicate l.length false) := OW.new bE_len (by omega) bd lrp.symm (by rw [lrp]; omega)
  have ovd := ov.ext xd
  have xhd := xx.trans xd
  have vlt : ∀ j, blkOf v j → j < h'.next := fun j e => ov.lt e
  have d4 : decide (0 ≤ (l.length : Int)) = true := decide_eq_true (by omega)
  simp (maxSteps := 1000000) (disch := first | decide | omega | (simp only [go_sem]; first | done | omega)) only [go_sem, Int.reduceToNat, Nat.reduceMul, Nat.reduceAdd, Nat.reduceSub, ↓EU_region, ↓EU_draw, dec_t, dec_f, g0, d4]
  generalize h'.push (.cells (zeroRow [.bool false] l.length) 1) = hd at *
  repeat refine WPo_ob ?_
  refine (LP_rule (fun m st => ∃ (p : Nat) (tm : Fr) (h2 : Heap) (Q : List Int) (D : List Bool), st = ⟨tm, h2, []⟩ ∧ m = left - p ∧ p ≤ left ∧ Fr.get tm 0 = .slice a l.length c ∧ Fr.get tm 1 = .int .i64 n ∧ Fr.get tm 5 = .int .i64 (sumI l) ∧ Fr.get tm 7 = v ∧ Fr.get tm 8 = .int .i64 ((left - p : Nat) : Int) ∧ Fr.get tm 10 = .slice (some ⟨h'.next, 0, none⟩) l.length (2 * l.length + 1) ∧ Q.length = l.length ∧ (∀ (i : Nat) (w : Int), (shL l n)[i]? = some w → Q[i]? = some (w + if (i : Int) ∈ O.take p then 1 else 0)) ∧ D.length = l.length ∧ (∀ i : Nat, i < l.length → D[i]? = some (decide ((i : Int) ∈ O.take p))) ∧ OW (intE .i64) 1 h2 v Q ∧ OW bE 1 h2 (.slice (some ⟨h'.next, 0, none⟩) l.length (2 * l.length + 1)) D ∧ h'.next < h2.next ∧ Ext h h2)
    (fun q => ∃ (tm : Fr) (h2 : Heap) (Q : List Int), q.2 = ⟨tm, h2, []⟩ ∧ q.1 = .exit 2 ∧ Fr.get tm 7 = v ∧ Q.length = l.length ∧ (∀ (i : Nat) (w : Int), (shL l n)[i]? = some w → Q[i]? = some (w + if (i : Int) ∈ O.take left then 1 else 0)) ∧ OW (intE .i64) 1 h2 v Q ∧ Ext h h2) ?_ left _ _ ?_ ?_).mono ?_
  rotate_left
  · refine ⟨0, _, hd, shL l n, List.replicate l.length false, rfl, rfl, Nat.zero_le _, by simp (maxSteps := 1000000) (disch := first | decide | omega | (simp only [go_sem]; first | done | omega)) only [go_sem, Int.reduceToNat, Nat.reduceMul, Nat.reduceAdd, Nat.reduceSub, ↓EU_region, ↓EU_draw, g0], by simp (maxSteps := 1000000) (disch := first | decide | omega | (simp only [go_sem]; first | done | omega)) only [go_sem, Int.reduceToNat, Nat.reduceMul, Nat.reduceAdd, Nat.reduceSub, ↓EU_region, ↓EU_draw, g1], by simp (maxSteps := 1000000) (disch := first | decide | omega | (simp only [go_sem]; first | done | omega)) only [go_sem, Int.reduceToNat, Nat.reduceMul, Nat.reduceAdd, Nat.reduceSub, ↓EU_region, ↓EU_draw, g5], by simp (maxSteps := 1000000) (disch := first | decide | omega | (simp only [go_sem]; first | done | omega)) only [go_sem, Int.reduceToNat, Nat.reduceMul, Nat.reduceAdd, Nat.reduceSub, ↓EU_region, ↓EU_draw, g7], by simp (maxSteps := 1000000) (disch := first | decide | omega | (simp only [go_sem]; first | done | omega)) only [go_sem, Int.reduceToNat, Nat.reduceMul, Nat.reduceAdd, Nat.reduceSub, ↓EU_region, ↓EU_draw, g8]; rfl, by simp (maxSteps := 1000000) (disch := first | decide | omega | (simp only [go_sem]; first | done | omega)) only [go_sem, Int.reduceToNat, Nat.reduceMul, Nat.reduceAdd, Nat.reduceSub, ↓EU_region, ↓EU_draw], lsh, fun i w hw => ?_, lrp, fun i hi => ?_, ovd, od, by omega, xhd⟩
    · rw [List.take_zero, if_neg (by simp), Int.add_zero]; exact hw
    · rw [List.take_zero, List.getElem?_replicate, if_pos hi, decide_eq_false (by simp)]
  · omega
  · rintro ⟨_, _⟩ ⟨tm, h2, Q, rfl, rfl, g7, lQ, vQ, oQ, x2⟩
    rw [hve] at g7 oQ
    simp (maxSteps := 1000000) (disch := first | decide | omega | (simp only [go_sem]; first | done | omega)) only [go_sem, Int.reduceToNat, Nat.reduceMul, Nat.reduceAdd, Nat.reduceSub, ↓EU_region, ↓EU_draw, g7]
    exact ⟨Q, lQ, vQ, oQ, x2⟩
  clear g0 g1 g5 g7 g8
  rintro m _ ⟨p, tm, h2, Q, D, rfl, hm, hp, g0, g1, g5, g7, g8, g10, lQ, vQ, lD, vD, oQ, oD, hlt2, x2⟩
  by_cases hpl : p < left
  rotate_left
  · have dl : decide (0 < ((left - p : Nat) : Int)) = false := decide_eq_false (by omega)
    obtain rfl : p = left := by omega
    simp (maxSteps := 1000000) (disch := first | decide | omega | (simp only [go_sem]; first | done | omega)) only [go_sem, Int.reduceToNat, Nat.reduceMul, Nat.reduceAdd, Nat.reduceSub, ↓EU_region, ↓EU_draw, g8, dl]
    exact ⟨_, h2, Q, rfl, trivial, by simp (maxSteps := 1000000) (disch := first | decide | omega | (simp only [go_sem]; first | done | omega)) only [go_sem, Int.reduceToNat, Nat.reduceMul, Nat.reduceAdd, Nat.reduceSub, ↓EU_region, ↓EU_draw, g7], lQ, vQ, oQ, x2⟩
  have hmm : left - (p + 1) < m := by omega
  have dl : decide (0 < ((left - p : Nat) : Int)) = true := decide_eq_true (by omega)
  rw [hve] at g7
  obtain ⟨e, he⟩ : ∃ e, O[p]? = some e := ⟨_, List.getElem?_eq_getElem (by omega)⟩
  obtain ⟨w0, hw0, rfl⟩ := idxL_mem (pO.mem_iff.1 (List.mem_of_getElem? he))
  have hnw : ¬ (w0 : Int) ∈ O.take p := fun hin => by
    obtain ⟨q, hq⟩ := List.getElem?_of_mem hin
    have hql := (List.getElem?_eq_some_iff.1 hq).1
    rw [List.length_take] at hql
    rw [List.getElem?_take_of_lt (by omega)] at hq
    have := (List.getElem?_inj (by omega) nd).1 (hq.trans he.symm)
    omega
  simp (maxSteps := 1000000) (disch := first | decide | omega | (simp only [go_sem]; first | done | omega)) only [go_sem, Int.reduceToNat, Nat.reduceMul, Nat.reduceAdd, Nat.reduceSub, ↓EU_region, ↓EU_draw, g8, dl]
  repeat refine WPo_ob ?_
  refine (LP_rule (fun m st => ∃ (i : Nat) (tm : Fr) (bst : Int), st = ⟨tm, h2, []⟩ ∧ m = l.length - i ∧ i ≤ l.length ∧ Fr.get tm 0 = .slice a l.length c ∧ Fr.get tm 1 = .int .i64 n ∧ Fr.get tm 5 = .int .i64 (sumI l) ∧ Fr.get tm 7 = .slice va l.length vc ∧ Fr.get tm 8 = .int .i64 ((left - p : Nat) : Int) ∧ Fr.get tm 10 = .slice (some ⟨h'.next, 0, none⟩) l.length (2 * l.length + 1) ∧ Fr.get tm 11 = .int .i64 bst ∧ Fr.get tm 12 = .int .i64 (i : Int) ∧ ((bst = -1 ∧ ∀ j : Nat, j < i → (j : Int) ∈ O.take p) ∨ ∃ u : Nat, bst = (u : Int) ∧ u < i ∧ ¬ (u : Int) ∈ O.take p ∧ ∀ j : Nat, j < i → ¬ (j : Int) ∈ O.take p → j = u ∨ ltF F (u : Int) (j : Int)))
    (fun q => ∃ (u : Nat) (tm : Fr), q.2 = ⟨tm, h2, []⟩ ∧ q.1 = .exit 4 ∧ Fr.get tm 0 = .slice a l.length c ∧ Fr.get tm 1 = .int .i64 n ∧ Fr.get tm 5 = .int .i64 (sumI l) ∧ Fr.get tm 7 = .slice va l.length vc ∧ Fr.get tm 8 = .int .i64 ((left - p : Nat) : Int) ∧ Fr.get tm 10 = .slice (some ⟨h'.next, 0, none⟩) l.length (2 * l.length + 1) ∧ Fr.get tm 11 = .int .i64 (u : Int) ∧ u < l.length ∧ ¬ (u : Int) ∈ O.take p ∧ ∀ j : Nat, j < l.length → ¬ (j : Int) ∈ O.take p → j = u ∨ ltF F (u : Int) (j : Int)) ?_ l.length _ _ ?_ ?_).mono ?_
  · clear g0 g1 g5 g7 g8 g10
    rintro m _ ⟨i, tm, bst, rfl, hm, hi, g0, g1, g5, g7, g8, g10, g11, g12, hinv⟩
    by_cases hq : i < l.length
    rotate_left
    · have d : decide ((i : Int) < (l.length : Int)) = false := decide_eq_false (by clear hinv; omega)
      obtain rfl : i = l.length := by clear hinv; omega
      simp (maxSteps := 1000000) (disch := first | decide | omega | (simp only [go_sem]; first | done | omega)) only [go_sem, Int.reduceToNat, Nat.reduceMul, Nat.reduceAdd, Nat.reduceSub, ↓EU_region, ↓EU_draw, g0, g12, d]
      rcases hinv with ⟨rfl, hall⟩ | ⟨u, rfl, hu, hnu, hall⟩
      · exact absurd (hall w0 hw0) hnw
      · exact ⟨u, _, rfl, trivial, by simp (maxSteps := 1000000) (disch := first | decide | omega | (simp only [go_sem]; first | done | omega)) only [go_sem, Int.reduceToNat, Nat.reduceMul, Nat.reduceAdd, Nat.reduceSub, ↓EU_region, ↓EU_draw, g0], by simp (maxSteps := 1000000) (disch := first | decide | omega | (simp only [go_sem]; first | done | omega)) only [go_sem, Int.reduceToNat, Nat.reduceMul, Nat.reduceAdd, Nat.reduceSub, ↓EU_region, ↓EU_draw, g1], by simp (maxSteps := 1000000) (disch := first | decide | omega | (simp only [go_sem]; first | done | omega)) only [go_sem, Int.reduceToNat, Nat.reduceMul, Nat.reduceAdd, Nat.reduceSub, ↓EU_region, ↓EU_draw, g5], by simp (maxSteps := 1000000) (disch := first | decide | omega | (simp only [go_sem]; first | done | omega)) only [go_sem, Int.reduceToNat, Nat.reduceMul, Nat.reduceAdd, Nat.reduceSub, ↓EU_region, ↓EU_draw, g7], by simp (maxSteps := 1000000) (disch := first | decide | omega | (simp only [go_sem]; first | done | omega)) only [go_sem, Int.reduceToNat, Nat.reduceMul, Nat.reduceAdd, Nat.reduceSub, ↓EU_region, ↓EU_draw, g8], by simp (maxSteps := 1000000) (disch := first | decide | omega | (simp only [go_sem]; first | done | omega)) only [go_sem, Int.reduceToNat, Nat.reduceMul, Nat.reduceAdd, Nat.reduceSub, ↓EU_region, ↓EU_draw, g10], by simp (maxSteps := 1000000) (disch := first | decide | omega | (simp only [go_sem]; first | done | omega)) only [go_sem, Int.reduceToNat, Nat.reduceMul, Nat.reduceAdd, Nat.reduceSub, ↓EU_region, ↓EU_draw, g11], hu, hnu, hall⟩
    have hmm2 : l.length - (i + 1) < m := by clear hinv; omega
    have d : decide ((i : Int) < (l.length : Int)) = true := decide_eq_true (by clear hinv; omega)
    have hwi : wrapF .i64 ((i : Int) + 1) = ((i + 1 : Nat) : Int) := by rw [wrap64 (by clear hinv; omega)]; rfl
    have hDi := vD i hq
    obtain ⟨B', o', c', e, _, _, t1⟩ := oD.sl.at hDi rfl
    rw [lD] at e
    cases e
    have t1 := t1 0 _ rfl
    simp only [Nat.add_zero, Nat.mul_one, Nat.zero_add] at t1
    by_cases hin : (i : Int) ∈ O.take p
    · rw [decide_eq_true hin] at t1
      simp (maxSteps := 1000000) (disch := first | decide | omega | (simp only [go_sem]; first | done | omega)) only [go_sem, Int.reduceToNat, Nat.reduceMul, Nat.reduceAdd, Nat.reduceSub, ↓EU_region, ↓EU_draw, g0, g10, g12, d, t1, hwi, Nat.mul_one, Nat.zero_add]
      refine ⟨l.length - (i + 1), hmm2, i + 1, _, bst, rfl, rfl, hq, by simp (maxSteps := 1000000) (disch := first | decide | omega | (simp only [go_sem]; first | done | omega)) only [go_sem, Int.reduceToNat, Nat.reduceMul, Nat.reduceAdd, Nat.reduceSub, ↓EU_region, ↓EU_draw, g0], by simp (maxSteps := 1000000) (disch := first | decide | omega | (simp only [go_sem]; first | done | omega)) only [go_sem, Int.reduceToNat, Nat.reduceMul, Nat.reduceAdd, Nat.reduceSub, ↓EU_region, ↓EU_draw, g1], by simp (maxSteps := 1000000) (disch := first | decide | omega | (simp only [go_sem]; first | done | omega)) only [go_sem, Int.reduceToNat, Nat.reduceMul, Nat.reduceAdd, Nat.reduceSub, ↓EU_region, ↓EU_draw, g5], by simp (maxSteps := 1000000) (disch := first | decide | omega | (simp only [go_sem]; first | done | omega)) only [go_sem, Int.reduceToNat, Nat.reduceMul, Nat.reduceAdd, Nat.reduceSub, ↓EU_region, ↓EU_draw, g7], by simp (maxSteps := 1000000) (disch := first | decide | omega | (simp only [go_sem]; first | done | omega)) only [go_sem, Int.reduceToNat, Nat.reduceMul, Nat.reduceAdd, Nat.reduceSub, ↓EU_region, ↓EU_draw, g8], by simp (maxSteps := 1000000) (disch := first | decide | omega | (simp only [go_sem]; first | done | omega)) only [go_sem, Int.reduceToNat, Nat.reduceMul, Nat.reduceAdd, Nat.reduceSub, ↓EU_region, ↓EU_draw, g10], by simp (maxSteps := 1000000) (disch := first | decide | omega | (simp only [go_sem]; first | done | omega)) only [go_sem, Int.reduceToNat, Nat.reduceMul, Nat.reduceAdd, Nat.reduceSub, ↓EU_region, ↓EU_draw, g11], by simp (maxSteps := 1000000) (disch := first | decide | omega | (simp only [go_sem]; first | done | omega)) only [go_sem, Int.reduceToNat, Nat.reduceMul, Nat.reduceAdd, Nat.reduceSub, ↓EU_region, ↓EU_draw], ?_⟩
      rcases hinv with ⟨e1, hall⟩ | ⟨u, e1, hu, hnu, hall⟩
      · refine .inl ⟨e1, fun j hj => ?_⟩
        by_cases e2 : j = i
        · subst e2; exact hin
        · exact hall j (by omega)
      · refine .inr ⟨u, e1, Nat.lt_succ_of_lt hu, hnu, fun j hj hnj => ?_⟩
        by_cases e2 : j = i
        · subst e2; exact absurd hin hnj
        · exact hall j (by omega) hnj
    rw [decide_eq_false hin] at t1
    rcases hinv with ⟨rfl, hall⟩ | ⟨u, rfl, hu, hnu, hall⟩
    · have dn : decide ((-1 : Int) < 0) = true := by decide
      simp (maxSteps := 1000000) (disch := first | decide | omega | (simp only [go_sem]; first | done | omega)) only [go_sem, Int.reduceToNat, Nat.reduceMul, Nat.reduceAdd, Nat.reduceSub, ↓EU_region, ↓EU_draw, g0, g10, g11, g12, d, t1, hwi, Nat.mul_one, Nat.zero_add, dn]
      refine ⟨l.length - (i + 1), hmm2, i + 1, _, (i : Int), rfl, rfl, hq, by simp (maxSteps := 1000000) (disch := first | decide | omega | (simp only [go_sem]; first | done | omega)) only [go_sem, Int.reduceToNat, Nat.reduceMul, Nat.reduceAdd, Nat.reduceSub, ↓EU_region, ↓EU_draw, g0], by simp (maxSteps := 1000000) (disch := first | decide | omega | (simp only [go_sem]; first | done | omega)) only [go_sem, Int.reduceToNat, Nat.reduceMul, Nat.reduceAdd, Nat.reduceSub, ↓EU_region, ↓EU_draw, g1], by simp (maxSteps := 1000000) (disch := first | decide | omega | (simp only [go_sem]; first | done | omega)) only [go_sem, Int.reduceToNat, Nat.reduceMul, Nat.reduceAdd, Nat.reduceSub, ↓EU_region, ↓EU_draw, g5], by simp (maxSteps := 1000000) (disch := first | decide | omega | (simp only [go_sem]; first | done | omega)) only [go_sem, Int.reduceToNat, Nat.reduceMul, Nat.reduceAdd, Nat.reduceSub, ↓EU_region, ↓EU_draw, g7], by simp (maxSteps := 1000000) (disch := first | decide | omega | (simp only [go_sem]; first | done | omega)) only [go_sem, Int.reduceToNat, Nat.reduceMul, Nat.reduceAdd, Nat.reduceSub, ↓EU_region, ↓EU_draw, g8], by simp (maxSteps := 1000000) (disch := first | decide | omega | (simp only [go_sem]; first | done | omega)) only [go_sem, Int.reduceToNat, Nat.reduceMul, Nat.reduceAdd, Nat.reduceSub, ↓EU_region, ↓EU_draw, g10], by simp (maxSteps := 1000000) (disch := first | decide | omega | (simp only [go_sem]; first | done | omega)) only [go_sem, Int.reduceToNat, Nat.reduceMul, Nat.reduceAdd, Nat.reduceSub, ↓EU_region, ↓EU_draw], by simp (maxSteps := 1000000) (disch := first | decide | omega | (simp only [go_sem]; first | done | omega)) only [go_sem, Int.reduceToNat, Nat.reduceMul, Nat.reduceAdd, Nat.reduceSub, ↓EU_region, ↓EU_draw], .inr ⟨i, rfl, Nat.lt_succ_self i, hin, fun j hj hnj => ?_⟩⟩
      by_cases e2 : j = i
      · exact .inl e2
      · exact absurd (hall j (by omega)) hnj
    have dn : decide ((u : Int) < 0) = false := decide_eq_false (by omega)
    obtain ⟨wi, hwi1⟩ : ∃ w, l[i]? = some w := ⟨_, List.getElem?_eq_getElem hq⟩
    obtain ⟨wu, hwu1⟩ : ∃ w, l[u]? = some w := ⟨_, List.getElem?_eq_getElem (by omega)⟩
    have fi := hF' i wi hwi1
    have fu := hF' u wu hwu1
    have qi := vQ i _ (hSH i wi hwi1)
    have qu := vQ u _ (hSH u wu hwu1)
    rw [if_neg hin, Int.add_zero] at qi
    rw [if_neg hnu, Int.add_zero] at qu
    generalize shareR wi (sumI l) n = si at *
    generalize shareR wu (sumI l) n = su at *
    obtain ⟨B1, o1, c1, e1, _, _, y1⟩ := oQ.sl.at qi rfl
    obtain ⟨B2, o2, c2, e2, _, _, y2⟩ := oQ.sl.at qu rfl
    rw [hve, lQ] at e1 e2
    cases e1
    cases e2
    have y1 := y1 0 _ rfl
    have y2 := y2 0 _ rfl
    obtain ⟨B3, o3, c3, e3, _, _, z1⟩ := (hs.ext x2).at hwi1 rfl
    obtain ⟨B4, o4, c4, e4, _, _, z2⟩ := (hs.ext x2).at hwu1 rfl
    rw [hv] at e3 e4
    cases e3
    cases e4
    have z1 := z1 0 _ rfl
    have z2 := z2 0 _ rfl
    simp only [Nat.add_zero, Nat.mul_one] at y1 y2 z1 z2
    have hul : u < l.length := by omega
    by_cases hlt : F (i : Int) < F (u : Int)
    · have dlt : decide (wrapF .i64 (wrapF .i64 (si * sumI l) - wrapF .i64 (n * wi)) < wrapF .i64 (wrapF .i64 (su * sumI l) - wrapF .i64 (n * wu))) = true := by
        rw [← fi, ← fu]; exact decide_eq_true hlt
      simp (maxSteps := 1000000) (disch := first | decide | omega | (simp only [go_sem]; first | done | omega)) only [go_sem, Int.reduceToNat, Nat.reduceMul, Nat.reduceAdd, Nat.reduceSub, ↓EU_region, ↓EU_draw, g0, g1, g5, g7, g10, g11, g12, d, t1, dn, y1, y2, z1, z2, dlt, hwi, Nat.mul_one, Nat.zero_add]
      refine ⟨l.length - (i + 1), hmm2, i + 1, _, (i : Int), rfl, rfl, hq, by simp (maxSteps := 1000000) (disch := first | decide | omega | (simp only [go_sem]; first | done | omega)) only [go_sem, Int.reduceToNat, Nat.reduceMul, Nat.reduceAdd, Nat.reduceSub, ↓EU_region, ↓EU_draw, g0], by simp (maxSteps := 1000000) (disch := first | decide | omega | (simp only [go_sem]; first | done | omega)) only [go_sem, Int.reduceToNat, Nat.reduceMul, Nat.reduceAdd, Nat.reduceSub, ↓EU_region, ↓EU_draw, g1], by simp (maxSteps := 1000000) (disch := first | decide | omega | (simp only [go_sem]; first | done | omega)) only [go_sem, Int.reduceToNat, Nat.reduceMul, Nat.reduceAdd, Nat.reduceSub, ↓EU_region, ↓EU_draw, g5], by simp (maxSteps := 1000000) (disch := first | decide | omega | (simp only [go_sem]; first | done | omega)) only [go_sem, Int.reduceToNat, Nat.reduceMul, Nat.reduceAdd, Nat.reduceSub, ↓EU_region, ↓EU_draw, g7], by simp (maxSteps := 1000000) (disch := first | decide | omega | (simp only [go_sem]; first | done | omega)) only [go_sem, Int.reduceToNat, Nat.reduceMul, Nat.reduceAdd, Nat.reduceSub, ↓EU_region, ↓EU_draw, g8], by simp (maxSteps := 1000000) (disch := first | decide | omega | (simp only [go_sem]; first | done | omega)) only [go_sem, Int.reduceToNat, Nat.reduceMul, Nat.reduceAdd, Nat.reduceSub, ↓EU_region, ↓EU_draw, g10], by simp (maxSteps := 1000000) (disch := first | decide | omega | (simp only [go_sem]; first | done | omega)) only [go_sem, Int.reduceToNat, Nat.reduceMul, Nat.reduceAdd, Nat.reduceSub, ↓EU_region, ↓EU_draw], by simp (maxSteps := 1000000) (disch := first | decide | omega | (simp only [go_sem]; first | done | omega)) only [go_sem, Int.reduceToNat, Nat.reduceMul, Nat.reduceAdd, Nat.reduceSub, ↓EU_region, ↓EU_draw], .inr ⟨i, rfl, Nat.lt_succ_self i, hin, fun j hj hnj => ?_⟩⟩
      by_cases e2 : j = i
      · exact .inl e2
      · rcases hall j (by omega) hnj with e3 | e3
        · subst e3; exact .inr (.inl hlt)
        · exact .inr (ltF.tr (.inl hlt) e3)
    · have dlt : decide (wrapF .i64 (wrapF .i64 (si * sumI l) - wrapF .i64 (n * wi)) < wrapF .i64 (wrapF .i64 (su * sumI l) - wrapF .i64 (n * wu))) = false := by
        rw [← fi, ← fu]; exact decide_eq_false hlt
      simp (maxSteps := 1000000) (disch := first | decide | omega | (simp only [go_sem]; first | done | omega)) only [go_sem, Int.reduceToNat, Nat.reduceMul, Nat.reduceAdd, Nat.reduceSub, ↓EU_region, ↓EU_draw, g0, g1, g5, g7, g10, g11, g12, d, t1, dn, y1, y2, z1, z2, dlt, hwi, Nat.mul_one, Nat.zero_add]
      refine ⟨l.length - (i + 1), hmm2, i + 1, _, (u : Int), rfl, rfl, hq, by simp (maxSteps := 1000000) (disch := first | decide | omega | (simp only [go_sem]; first | done | omega)) only [go_sem, Int.reduceToNat, Nat.reduceMul, Nat.reduceAdd, Nat.reduceSub, ↓EU_region, ↓EU_draw, g0], by simp (maxSteps := 1000000) (disch := first | decide | omega | (simp only [go_sem]; first | done | omega)) only [go_sem, Int.reduceToNat, Nat.reduceMul, Nat.reduceAdd, Nat.reduceSub, ↓EU_region, ↓EU_draw, g1], by simp (maxSteps := 1000000) (disch := first | decide | omega | (simp only [go_sem]; first | done | omega)) only [go_sem, Int.reduceToNat, Nat.reduceMul, Nat.reduceAdd, Nat.reduceSub, ↓EU_region, ↓EU_draw, g5], by simp (maxSteps := 1000000) (disch := first | decide | omega | (simp only [go_sem]; first | done | omega)) only [go_sem, Int.reduceToNat, Nat.reduceMul, Nat.reduceAdd, Nat.reduceSub, ↓EU_region, ↓EU_draw, g7], by simp (maxSteps := 1000000) (disch := first | decide | omega | (simp only [go_sem]; first | done | omega)) only [go_sem, Int.reduceToNat, Nat.reduceMul, Nat.reduceAdd, Nat.reduceSub, ↓EU_region, ↓EU_draw, g8], by simp (maxSteps := 1000000) (disch := first | decide | omega | (simp only [go_sem]; first | done | omega)) only [go_sem, Int.reduceToNat, Nat.reduceMul, Nat.reduceAdd, Nat.reduceSub, ↓EU_region, ↓EU_draw, g10], by simp (maxSteps := 1000000) (disch := first | decide | omega | (simp only [go_sem]; first | done | omega)) only [go_sem, Int.reduceToNat, Nat.reduceMul, Nat.reduceAdd, Nat.reduceSub, ↓EU_region, ↓EU_draw, g11], by simp (maxSteps := 1000000) (disch := first | decide | omega | (simp only [go_sem]; first | done | omega)) only [go_sem, Int.reduceToNat, Nat.reduceMul, Nat.reduceAdd, Nat.reduceSub, ↓EU_region, ↓EU_draw], .inr ⟨u, rfl, Nat.lt_succ_of_lt hu, hnu, fun j hj hnj => ?_⟩⟩
      by_cases e2 : j = i
      · subst e2
        exact .inr (by unfold ltF; omega)
      · exact hall j (by omega) hnj
  · exact ⟨0, _, -1, rfl, rfl, Nat.zero_le _, by simp (maxSteps := 1000000) (disch := first | decide | omega | (simp only [go_sem]; first | done | omega)) only [go_sem, Int.reduceToNat, Nat.reduceMul, Nat.reduceAdd, Nat.reduceSub, ↓EU_region, ↓EU_draw, g0], by simp (maxSteps := 1000000) (disch := first | decide | omega | (simp only [go_sem]; first | done | omega)) only [go_sem, Int.reduceToNat, Nat.reduceMul, Nat.reduceAdd, Nat.reduceSub, ↓EU_region, ↓EU_draw, g1], by simp (maxSteps := 1000000) (disch := first | decide | omega | (simp only [go_sem]; first | done | omega)) only [go_sem, Int.reduceToNat, Nat.reduceMul, Nat.reduceAdd, Nat.reduceSub, ↓EU_region, ↓EU_draw, g5], by simp (maxSteps := 1000000) (disch := first | decide | omega | (simp only [go_sem]; first | done | omega)) only [go_sem, Int.reduceToNat, Nat.reduceMul, Nat.reduceAdd, Nat.reduceSub, ↓EU_region, ↓EU_draw, g7], by simp (maxSteps := 1000000) (disch := first | decide | omega | (simp only [go_sem]; first | done | omega)) only [go_sem, Int.reduceToNat, Nat.reduceMul, Nat.reduceAdd, Nat.reduceSub, ↓EU_region, ↓EU_draw, g8], by simp (maxSteps := 1000000) (disch := first | decide | omega | (simp only [go_sem]; first | done | omega)) only [go_sem, Int.reduceToNat, Nat.reduceMul, Nat.reduceAdd, Nat.reduceSub, ↓EU_region, ↓EU_draw, g10], by simp (maxSteps := 1000000) (disch := first | decide | omega | (simp only [go_sem]; first | done | omega)) only [go_sem, Int.reduceToNat, Nat.reduceMul, Nat.reduceAdd, Nat.reduceSub, ↓EU_region, ↓EU_draw], by simp (maxSteps := 1000000) (disch := first | decide | omega | (simp only [go_sem]; first | done | omega)) only [go_sem, Int.reduceToNat, Nat.reduceMul, Nat.reduceAdd, Nat.reduceSub, ↓EU_region, ↓EU_draw]; rfl, .inl ⟨rfl, fun j hj => absurd hj (Nat.not_lt_zero _)⟩⟩
  · omega
  clear g0 g1 g5 g7 g8 g10
  rintro ⟨_, _⟩ ⟨u, tm, rfl, rfl, g0, g1, g5, g7, g8, g10, g11, hu, hnu, hall⟩
  have hOp := next_least pO sO (by omega) hu hnu hall
  obtain ⟨B5, o5, c5, cs5, e5, hB5, hc5, hfit5, oD'⟩ := oD.put bE_len u true (by rw [lD]; exact hu)
  rw [lD] at e5
  cases e5
  rw [Nat.mul_one, Nat.zero_add] at hfit5 oD'
  have oD' : OW bE 1 (h2.set h'.next (.cells (cs5.set u (.bool true)) 1)) (.slice (some ⟨h'.next, 0, none⟩) l.length (2 * l.length + 1)) (D.set u true) := oD'
  have m5 : Mod (fun i => i = h'.next) h2 (h2.set h'.next (.cells (cs5.set u (.bool true)) 1)) := (Mod.refl _ _).set _ _ (fun _ => rfl)
  have oQ5 := oQ.mod m5 (fun i e1 e2 => by have := vlt i e1; omega)
  have nx5 : (h2.set h'.next (.cells (cs5.set u (.bool true)) 1)).next = h2.next := next_set _ _ _
  have xx5 : Ext h (h2.set h'.next (.cells (cs5.set u (.bool true)) 1)) := x2.set _ _ (by have := xx.le; omega)
  simp (maxSteps := 1000000) (disch := first | decide | omega | (simp only [go_sem]; first | done | omega)) only [go_sem, Int.reduceToNat, Nat.reduceMul, Nat.reduceAdd, Nat.reduceSub, ↓EU_region, ↓EU_draw, g10, g11, hc5, Nat.mul_one, Nat.zero_add]
  generalize h2.set h'.next (.cells (cs5.set u (.bool true)) 1) = h5 at *
  obtain ⟨sv, hsv⟩ : ∃ sv, (shL l n)[u]? = some sv := ⟨_, List.getElem?_eq_getElem (by omega)⟩
  have hsb := hbd sv (List.mem_of_getElem? hsv)
  have qu := vQ u sv hsv
  rw [if_neg hnu, Int.add_zero] at qu
  obtain ⟨B6, o6, c6, e6, _, _, y6⟩ := oQ5.sl.at qu rfl
  rw [hve, lQ] at e6
  cases e6
  have y6 := y6 0 _ rfl
  obtain ⟨B7, o7, c7, cs7, e7, hB7, hc7, hfit7, oQ'⟩ := oQ5.put i64_len u (sv + 1) (by omega)
  rw [hve, lQ] at e7
  cases e7
  rw [Nat.mul_one] at hfit7 oQ'
  have oQ' : OW (intE .i64) 1 (h5.set B6 (.cells (cs7.set (o6 + u) (.int .i64 (sv + 1))) 1)) v (Q.set u (sv + 1)) := oQ'
  have hB6 : B6 < h'.next ∧ h.next ≤ B6 := ⟨vlt B6 (by rw [hve]; rfl), fv B6 (by rw [hve]; rfl)⟩
  have m7 : Mod (fun i => i = B6) h5 (h5.set B6 (.cells (cs7.set (o6 + u) (.int .i64 (sv + 1))) 1)) := (Mod.refl _ _).set _ _ (fun _ => rfl)
  have oD7 := oD'.mod m7 (fun i e1 e2 => by have e1 := blk_eq e1; omega)
  have xx7 : Ext h (h5.set B6 (.cells (cs7.set (o6 + u) (.int .i64 (sv + 1))) 1)) := xx5.set _ _ hB6.2
  have wv : wrapF .i64 (sv + 1) = sv + 1 := wrap64 (by omega)
  have wl : wrapF .i64 (((left - p : Nat) : Int) - 1) = ((left - (p + 1) : Nat) : Int) := by rw [wrap64 (by omega)]; omega
  rw [hc7] at y6
  simp only [Nat.add_zero, Nat.mul_one] at y6
  rw [rdc1_c] at y6
  simp (maxSteps := 1000000) (disch := first | decide | omega | (simp only [go_sem]; first | done | omega)) only [go_sem, Int.reduceToNat, Nat.reduceMul, Nat.reduceAdd, Nat.reduceSub, ↓EU_region, ↓EU_draw, g7, g8, g11, hc7, y6, wv, wl, Nat.mul_one]
  refine ⟨left - (p + 1), hmm, p + 1, _, _, Q.set u (sv + 1), D.set u true, rfl, rfl, hpl, by simp (maxSteps := 1000000) (disch := first | decide | omega | (simp only [go_sem]; first | done | omega)) only [go_sem, Int.reduceToNat, Nat.reduceMul, Nat.reduceAdd, Nat.reduceSub, ↓EU_region, ↓EU_draw, g0], by simp (maxSteps := 1000000) (disch := first | decide | omega | (simp only [go_sem]; first | done | omega)) only [go_sem, Int.reduceToNat, Nat.reduceMul, Nat.reduceAdd, Nat.reduceSub, ↓EU_region, ↓EU_draw, g1], by simp (maxSteps := 1000000) (disch := first | decide | omega | (simp only [go_sem]; first | done | omega)) only [go_sem, Int.reduceToNat, Nat.reduceMul, Nat.reduceAdd, Nat.reduceSub, ↓EU_region, ↓EU_draw, g5], by rw [hve]; simp (maxSteps := 1000000) (disch := first | decide | omega | (simp only [go_sem]; first | done | omega)) only [go_sem, Int.reduceToNat, Nat.reduceMul, Nat.reduceAdd, Nat.reduceSub, ↓EU_region, ↓EU_draw, g7], by simp (maxSteps := 1000000) (disch := first | decide | omega | (simp only [go_sem]; first | done | omega)) only [go_sem, Int.reduceToNat, Nat.reduceMul, Nat.reduceAdd, Nat.reduceSub, ↓EU_region, ↓EU_draw], by simp (maxSteps := 1000000) (disch := first | decide | omega | (simp only [go_sem]; first | done | omega)) only [go_sem, Int.reduceToNat, Nat.reduceMul, Nat.reduceAdd, Nat.reduceSub, ↓EU_region, ↓EU_draw, g10], by rw [List.length_set]; exact lQ, fun i w hw => ?_, by rw [List.length_set]; exact lD, fun i hi => ?_, oQ', oD7, by rw [next_set]; omega, xx7⟩
  · rw [List.take_add_one, hOp, List.getElem?_set]
    by_cases eu : u = i
    · subst eu
      rw [hsv] at hw
      cases hw
      rw [if_pos rfl, if_pos (by omega), if_pos (List.mem_append_right _ (by simp))]
    · rw [if_neg eu, vQ i w hw]
      congr 2
      have : ((i : Int) ∈ O.take p ++ (some (u : Int)).toList) ↔ (i : Int) ∈ O.take p := by
        rw [List.mem_append]
        constructor
        · rintro (q | q)
          · exact q
          · have : (i : Int) = (u : Int) := by simpa using q
            omega
        · exact .inl
      simp only [this]
  · rw [List.take_add_one, hOp, List.getElem?_set]
    by_cases eu : u = i
    · subst eu
      rw [if_pos rfl, if_pos (by omega), decide_eq_true (List.mem_append_right _ (by simp))]
    · rw [if_neg eu, vD i hi]
      congr 1
      rw [decide_eq_decide, List.mem_append]
      constructor
      · exact .inl
      · rintro (q | q)
        · exact q
        · have : (i : Int) = (u : Int) := by simpa using q
          omega
end Go.Proofs.Ytoomhlfogeglcaa.EV
