/- Contract: own, of the statements. No condition. -/
import Derived.Test.YtddgcakiceodgaaGreatOwed2
namespace Go.Proofs.YtddgcakiceodgaaGreat.EV
open Go Go.Proofs
set_option linter.unusedVariables false
set_option linter.unusedSimpArgs false
set_option maxRecDepth 100000
set_option pp.deepTerms false
set_option pp.deepTerms.threshold 20
theorem OW.veq {α : Type} {e : α → List Value} {es : Nat} {h : Heap} {v : Value} {l : List α} (s : OW e es h v l) : veq v v = true := by
  cases s with
  | nil => exact veq_slN _ _
  | mk b o c l cs hb hc hcap hl hx => exact veq_slS _ _ _ _
theorem SL.veq {α : Type} {e : α → List Value} {es : Nat} {h : Heap} {v : Value} {l : List α} (s : SL e es h v l) : veq v v = true := by
  cases s with
  | nil => exact veq_slN _ _
  | mk b o c l cs hb hc hl hx hcap hq => exact veq_slS _ _ _ _
theorem own_ev (cur : Int) (l : List Item) (s : Value) (h : Heap) (hs : SL itemE 3 h s l) (hl : l.length < 900000) :
    WPo (EF Tryz.prog O0 23 [formV cur s] h) fun q => ∃ v, q.1 = formV cur v ∧ OW itemE 3 q.2 v l ∧ Fresh h.next v ∧ Ext h q.2 := by
  rw [EF_body (O := O0) (by kernel_rfl) Tryz.func23 rfl (rs := [.cell 2 52]) rfl (bad := [5]) (by kernel_rfl) _ _ (m := 40) rfl]
  obtain ⟨a, c, hv⟩ := hs.val
  subst hv
  unfold formV
  simp (maxSteps := 1000000) (disch := first | decide | omega | (simp only [go_sem]; first | done | omega)) only [go_sem, Int.reduceToNat, Nat.reduceMul, Nat.reduceAdd, Nat.reduceSub, ↓EU_region, ↓EU_draw]
  repeat refine WPo_ob ?_
  refine (LP_rule (fun m st => ∃ (i : Nat) (tm : Fr) (h2 : Heap) (v : Value), st = ⟨tm, h2, []⟩ ∧ m = l.length - i ∧ i ≤ l.length ∧ Fr.get tm 1 = ptr h.next 0 ∧ Fr.get tm 2 = ptr (h.next + 1) 0 ∧ Fr.get tm 3 = ptr (h.next + 1 + 1) 0 ∧ Fr.get tm 4 = .int .i64 i ∧ Ext h h2 ∧ h2.get h.next = .cells [.int .i64 cur, .slice a l.length c] 0 ∧ (∃ w, h2.get (h.next + 1) = .cells [.int .i64 0, w] 0) ∧ h2.get (h.next + 1 + 1) = .cells [.int .i64 cur, v] 0 ∧ OW itemE 3 h2 v (l.take i) ∧ Fresh (h.next + 1 + 1 + 1) v ∧ h.next + 1 + 1 < h2.next)
    (fun q => ∃ tm h2 v, q.2 = ⟨tm, h2, []⟩ ∧ q.1 = .exit 0 ∧ Fr.get tm 2 = ptr (h.next + 1) 0 ∧ Fr.get tm 3 = ptr (h.next + 1 + 1) 0 ∧ Ext h h2 ∧ (∃ w, h2.get (h.next + 1) = .cells [.int .i64 0, w] 0) ∧ h2.get (h.next + 1 + 1) = .cells [.int .i64 cur, v] 0 ∧ OW itemE 3 h2 v l ∧ Fresh (h.next + 1 + 1 + 1) v ∧ h.next + 1 + 1 < h2.next) ?_ l.length _ _ ?_ ?_).mono ?_
  · rintro m _ ⟨i, tm, h2, v, rfl, rfl, hi, g1, g2, g3, g4, x2, hF, ⟨w, hw⟩, hB, hov, hfv, hn2⟩
    simp (maxSteps := 1000000) (disch := first | decide | omega | (simp only [go_sem]; first | done | omega)) only [go_sem, Int.reduceToNat, Nat.reduceMul, Nat.reduceAdd, Nat.reduceSub, ↓EU_region, ↓EU_draw, g1, g4, hF]
    ((repeat refine WPo_ob ?_); (first | refine WPo_cond (fun b1 => ?_) (fun b1 => ?_) | refine WPo_gard (fun b1 => ?_) (fun b1 => ?_) | refine WPo_gardT (fun b1 => ?_) (fun b1 => ?_)) <;> (try simp only [Bool.not_eq_true', Bool.not_eq_false'] at b1))
    · have b1' := b1
      simp only [decide_eq_true_eq] at b1'
      have hi' : i < l.length := by omega
      obtain ⟨x, hx⟩ : ∃ x, l[i]? = some x := ⟨_, List.getElem?_eq_getElem hi'⟩
      obtain ⟨b, o, c', e, hb', hrd, hr⟩ := (hs.ext x2).at hx rfl
      cases e
      have hr0 := hr 0 _ rfl
      have hr1 := hr 1 _ rfl
      have hr2 := hr 2 _ rfl
      rw [add_z] at hr0
      simp (maxSteps := 1000000) (disch := first | decide | omega | (simp only [go_sem]; first | done | omega)) only [go_sem, Int.reduceToNat, Nat.reduceMul, Nat.reduceAdd, Nat.reduceSub, g1, g2, g3, g4, hF]
      rw [EU_bad _ _ rfl, EC_tab (tab := [(false, none), (false, (some (0, 1))), (false, none), (false, none), (false, none), (false, none), (false, none), (false, none), (false, none), (false, none), (false, none), (false, none), (false, none), (false, none), (false, none), (false, none), (false, none), (false, none), (false, none), (false, none), (false, none), (true, none), (true, none), (false, none), (true, none)]) (by kernel_rfl)]
      obtain ⟨av, kv, hvv⟩ := hov.val
      subst hvv
      simp (maxSteps := 1000000) (disch := first | decide | omega | (simp only [go_sem]; first | done | omega)) only [go_sem, Int.reduceToNat, Nat.reduceMul, Nat.reduceAdd, Nat.reduceSub, ↓EU_region, ↓EU_draw, g1, g2, g3, g4, hF, hB, hr0, hr1, hr2]
      repeat refine WPo_ob ?_
      have hlit := OW.lit itemE_len h2 [x]
      rw [List.flatMap_cons, List.flatMap_nil, List.append_nil] at hlit
      unfold itemE at hlit
      have hm1 : ∀ j, blkOf (.slice av (l.take i).length kv) j → h.next ≤ j := fun j hj => by have := hfv j hj; omega
      have hsn : l.take (i + 1) = l.take i ++ [x] := by rw [List.take_add_one, hx]; rfl
      refine append_gr (l := l.take i) (l' := [x]) fc_ap_50_50 itemE_len (by decide) itemE_scal (hov.ext ((Ext.refl h2).push _)) hlit.sl (by rw [List.length_take]; simp only [List.length_cons, List.length_nil]; omega) (by rw [List.length_take]; simp only [List.length_cons, List.length_nil]; omega) fun v' h3 hov' gr => ?_
      rw [← hsn] at hov'
      have hnv : ∀ k, k ≤ h.next + 1 + 1 → ¬ blkOf (.slice av (l.take i).length kv) k := fun k hk q => by have := hfv _ q; omega
      have hk3 : ∀ k, k ≤ h.next + 1 + 1 → h3.get k = h2.get k := fun k hk => by rw [gr.old _ (by rw [next_push]; omega) (hnv k hk), get_push_old _ (by omega)]
      have hB' := (hk3 (h.next + 1 + 1) (by omega)).trans hB
      have hF' := (hk3 h.next (by omega)).trans hF
      have hw' := (hk3 (h.next + 1) (by omega)).trans hw
      have hn' := gr.le
      rw [next_push] at hn'
      have hfv' : Fresh (h.next + 1 + 1 + 1) v' := gr.fresh hfv (by rw [next_push]; omega)
      obtain ⟨av', kv', hvv'⟩ := hov'.val
      subst hvv'
      simp (maxSteps := 1000000) (disch := first | decide | omega | (simp only [go_sem]; first | done | omega)) only [go_sem, Int.reduceToNat, Nat.reduceMul, Nat.reduceAdd, Nat.reduceSub, ↓EU_region, ↓EU_draw, g1, g2, g3, g4, hF, hB, hB', hr0, hr1, hr2, hov.veq]
      have hm2 : Mod (fun j => h.next ≤ j) h2 (h3.set (h.next + 1 + 1) (.cells [.int .i64 cur, .slice av' (l.take (i + 1)).length kv'] 0)) := ((((Mod.refl _ h2).push _).trans (gr.mod.mono fun j _ hj => hm1 j hj))).set _ _ fun _ => by omega
      refine ⟨_, by omega, i + 1, _, _, _, rfl, rfl, by omega, by simp (maxSteps := 1000000) (disch := first | decide | omega | (simp only [go_sem]; first | done | omega)) only [go_sem, Int.reduceToNat, Nat.reduceMul, Nat.reduceAdd, Nat.reduceSub, ↓EU_region, ↓EU_draw, g1], by simp (maxSteps := 1000000) (disch := first | decide | omega | (simp only [go_sem]; first | done | omega)) only [go_sem, Int.reduceToNat, Nat.reduceMul, Nat.reduceAdd, Nat.reduceSub, ↓EU_region, ↓EU_draw, g2], by simp (maxSteps := 1000000) (disch := first | decide | omega | (simp only [go_sem]; first | done | omega)) only [go_sem, Int.reduceToNat, Nat.reduceMul, Nat.reduceAdd, Nat.reduceSub, ↓EU_region, ↓EU_draw, g3], by simp (maxSteps := 1000000) (disch := first | decide | omega | (simp only [go_sem]; first | done | omega)) only [go_sem, Int.reduceToNat, Nat.reduceMul, Nat.reduceAdd, Nat.reduceSub, ↓EU_region, ↓EU_draw], ⟨Nat.le_trans x2.le hm2.le, fun j hj => (hm2.old j (Nat.lt_of_lt_of_le hj x2.le) (by omega)).trans (x2.old j hj)⟩, by simp (maxSteps := 1000000) (disch := first | decide | omega | (simp only [go_sem]; first | done | omega)) only [go_sem, Int.reduceToNat, Nat.reduceMul, Nat.reduceAdd, Nat.reduceSub, ↓EU_region, ↓EU_draw, hF'], ⟨w, by simp (maxSteps := 1000000) (disch := first | decide | omega | (simp only [go_sem]; first | done | omega)) only [go_sem, Int.reduceToNat, Nat.reduceMul, Nat.reduceAdd, Nat.reduceSub, ↓EU_region, ↓EU_draw, hw']⟩, by simp (maxSteps := 1000000) (disch := first | decide | omega | (simp only [go_sem]; first | done | omega)) only [go_sem, Int.reduceToNat, Nat.reduceMul, Nat.reduceAdd, Nat.reduceSub, ↓EU_region, ↓EU_draw], hov'.mod (Mod.set (S := fun j => j = h.next + 1 + 1) (Mod.refl _ _) _ _ (fun _ => rfl)) (fun j hj q => by have := hfv' j hj; omega), hfv', by rw [next_set]; omega⟩
    · simp only [decide_eq_false_iff_not] at b1
      have : i = l.length := by omega
      subst this
      rw [List.take_length] at hov
      simp (maxSteps := 1000000) (disch := first | decide | omega | (simp only [go_sem]; first | done | omega)) only [go_sem, Int.reduceToNat, Nat.reduceMul, Nat.reduceAdd, Nat.reduceSub, ↓EU_region, ↓EU_draw]
      exact ⟨_, _, v, rfl, trivial, by simp (maxSteps := 1000000) (disch := first | decide | omega | (simp only [go_sem]; first | done | omega)) only [go_sem, Int.reduceToNat, Nat.reduceMul, Nat.reduceAdd, Nat.reduceSub, ↓EU_region, ↓EU_draw, g2], by simp (maxSteps := 1000000) (disch := first | decide | omega | (simp only [go_sem]; first | done | omega)) only [go_sem, Int.reduceToNat, Nat.reduceMul, Nat.reduceAdd, Nat.reduceSub, ↓EU_region, ↓EU_draw, g3], x2, ⟨w, hw⟩, hB, hov, hfv, hn2⟩
  · refine ⟨0, _, _, _, rfl, rfl, by omega, by simp (maxSteps := 1000000) (disch := first | decide | omega | (simp only [go_sem]; first | done | omega)) only [go_sem, Int.reduceToNat, Nat.reduceMul, Nat.reduceAdd, Nat.reduceSub, ↓EU_region, ↓EU_draw], by simp (maxSteps := 1000000) (disch := first | decide | omega | (simp only [go_sem]; first | done | omega)) only [go_sem, Int.reduceToNat, Nat.reduceMul, Nat.reduceAdd, Nat.reduceSub, ↓EU_region, ↓EU_draw], by simp (maxSteps := 1000000) (disch := first | decide | omega | (simp only [go_sem]; first | done | omega)) only [go_sem, Int.reduceToNat, Nat.reduceMul, Nat.reduceAdd, Nat.reduceSub, ↓EU_region, ↓EU_draw], by simp (maxSteps := 1000000) (disch := first | decide | omega | (simp only [go_sem]; first | done | omega)) only [go_sem, Int.reduceToNat, Nat.reduceMul, Nat.reduceAdd, Nat.reduceSub, ↓EU_region, ↓EU_draw]; rfl, ((((Ext.refl h).push _).push _).push _).set _ _ (by omega), by simp (maxSteps := 1000000) (disch := first | decide | omega | (simp only [go_sem]; first | done | omega)) only [go_sem, Int.reduceToNat, Nat.reduceMul, Nat.reduceAdd, Nat.reduceSub, ↓EU_region, ↓EU_draw], ⟨.slice none 0 1, by simp (maxSteps := 1000000) (disch := first | decide | omega | (simp only [go_sem]; first | done | omega)) only [go_sem, Int.reduceToNat, Nat.reduceMul, Nat.reduceAdd, Nat.reduceSub, ↓EU_region, ↓EU_draw]⟩, by simp (maxSteps := 1000000) (disch := first | decide | omega | (simp only [go_sem]; first | done | omega)) only [go_sem, Int.reduceToNat, Nat.reduceMul, Nat.reduceAdd, Nat.reduceSub, ↓EU_region, ↓EU_draw], OW.nil, Fresh.nil _ _ _, by simp only [next_push, next_set]; omega⟩
  · omega
  · rintro ⟨q, _⟩ ⟨tm, h2, v, rfl, rfl, g2, g3, x2, ⟨w, hw⟩, hB, hov, hfv, hn2⟩
    obtain ⟨av, kv, rfl⟩ := hov.val
    simp (maxSteps := 1000000) (disch := first | decide | omega | (simp only [go_sem]; first | done | omega)) only [go_sem, Int.reduceToNat, Nat.reduceMul, Nat.reduceAdd, Nat.reduceSub, ↓EU_region, ↓EU_draw, g2, g3, hw, hB]
    exact ⟨_, rfl, hov.mod (Mod.set (S := fun j => j = h.next + 1) (Mod.refl _ _) _ _ (fun _ => rfl)) (fun j hj q => by have := hfv j hj; omega), hfv.mono (by omega), x2.set _ _ (by omega)⟩
end Go.Proofs.YtddgcakiceodgaaGreat.EV
