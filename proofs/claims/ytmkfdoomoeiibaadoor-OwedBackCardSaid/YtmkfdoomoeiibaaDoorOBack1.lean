/- Contracts: forms: sorting, Clone, Delete. No condition. -/
import Derived.Test.YtmkfdoomoeiibaaDoorOwed2
import Derived.Test.YtmkfdoomoeiibaaDoorClr
namespace Go.Proofs.YtmkfdoomoeiibaaDoor.EV
open Go Go.Proofs
set_option linter.unusedVariables false
set_option linter.unusedSimpArgs false
set_option maxRecDepth 100000
set_option pp.deepTerms false
set_option pp.deepTerms.threshold 20
noncomputable def toT (x : Item) : I3 := (x.id, x.w, x.lag)
noncomputable def ofT (t : I3) : Item := ⟨t.1, t.2.1, t.2.2⟩
noncomputable def srtI (l : List Item) : List Item := (srt3 (l.map toT)).map ofT
theorem flat_to : ∀ l : List Item, (l.map toT).flatMap enc3 = l.flatMap itemE
  | [] => rfl
  | x :: l => by rw [List.map_cons, List.flatMap_cons, List.flatMap_cons, flat_to l]; rfl
theorem flat_of : ∀ l : List I3, l.flatMap enc3 = (l.map ofT).flatMap itemE
  | [] => rfl
  | x :: l => by rw [List.map_cons, List.flatMap_cons, List.flatMap_cons, flat_of l]; rfl
theorem srtI_len (l : List Item) : (srtI l).length = l.length := by
  unfold srtI
  rw [List.length_map, srt3_len, List.length_map]
theorem srtI_perm (l : List Item) : (srtI l).Perm l := by
  have h1 := (srt3_perm (l.map toT)).map ofT
  rw [List.map_map] at h1
  have h2 : l.map (ofT ∘ toT) = l := (List.map_congr_left fun x _ => rfl).trans (List.map_id l)
  rw [h2] at h1
  exact h1
theorem srtI_sorted (l : List Item) : (srtI l).Pairwise fun a b => a.id ≤ b.id := by
  unfold srtI
  rw [List.pairwise_map]
  exact srt3_sorted _
theorem sort_ev (l : List Item) (s : Value) (h : Heap) (ho : OW itemE 3 h s l) (hne : l ≠ []) (hl : l.length ≤ 1000000) :
    WPo (EF Tryd.prog O0 27 [s, .func (.func 28) ⟨[]⟩ ⟨[]⟩] h) fun q => OW itemE 3 q.2 s (srtI l) ∧ Mod (blkOf s) h q.2 ∧ q.2.next = h.next := by
  rw [EF_eq]
  unfold stepO
  have : O0 27 = some sort3T := by kernel_rfl
  rw [this]
  cases ho with
  | nil => exact (hne rfl).elim
  | mk b o c l cs hb hc hcap hll hx =>
    have hl0 : 0 < l.length := by
      rcases Nat.eq_zero_or_pos l.length with q | q
      · exact (hne (List.length_eq_zero_iff.1 q)).elim
      · exact q
    have hle := Nat.mul_le_mul_right 3 hcap
    have h1 := rows_eq (e := itemE) (es := 3) itemE_len l o (by omega) hx
    have h2 : h.rd b o (l.length * 3) = some ((l.map toT).flatMap enc3) := by
      rw [rd_eq, hc, rdc_c _ _ _ _ (by omega), h1, flat_to]
    have hys : (srt3 (l.map toT)).flatMap enc3 = (srtI l).flatMap itemE := flat_of _
    have hyl : ((srtI l).flatMap itemE).length = l.length * 3 := by rw [flatMap_len itemE_len, srtI_len]
    have hall : ((srtI l).flatMap itemE).all scal = true := by
      rw [List.all_eq_true]
      intro u hu
      obtain ⟨x, _, hx⟩ := List.mem_flatMap.1 hu
      exact List.all_eq_true.1 (itemE_scal x) u hx
    have hfit : o + ((srtI l).flatMap itemE).length ≤ cs.length := by omega
    show WPo (sort3T [.slice (some ⟨b, o, none⟩) l.length c, .func (.func 28) ⟨[]⟩ ⟨[]⟩] h) _
    unfold sort3T sortT
    have e1 : Nat.blt 0 l.length = true := by rw [Nat.blt_eq]; exact hl0
    have e2 : (Nat.beq 28 28 && ((⟨[]⟩ : Array Value).toList.isEmpty && ((⟨[]⟩ : Array Value).toList.isEmpty && (Nat.blt 0 l.length && Nat.ble l.length 1000000)))) = true := by
      rw [e1, ble_nat hl]; rfl
    have e3 : Nat.beq (l.map toT).length l.length = true := by rw [List.length_map]; exact beq_nat rfl
    simp only [e2, cnd_true, h2, ob_some, dec3_enc, e3, hys, wr_eq, hc, wrc_c _ _ _ _ _ _ hfit hall]
    refine ⟨_, rfl, ?_, (Mod.refl _ _).set _ _ fun _ => rfl, next_set _ _ _⟩
    have := OW.mk (e := itemE) (es := 3) (h := h.set b (.cells (splice cs o ((srtI l).flatMap itemE)) 3)) b o c (srtI l) _ (by rw [next_set]; exact hb) (get_set_same _ _ _) (by rw [srtI_len]; exact hcap) (by rw [splice_len]; exact hll) fun i x hi => by
      have hin := (List.getElem?_eq_some_iff.1 hi).1
      rw [srtI_len] at hin
      rw [← flatMap_at itemE_len (srtI l) i x hi]
      apply List.ext_getElem?
      intro j
      by_cases hj : j < 3
      · rw [List.getElem?_take_of_lt hj, List.getElem?_take_of_lt hj, List.getElem?_drop, List.getElem?_drop, splice_get hfit, if_pos (by omega)]
        congr 1; omega
      · rw [List.getElem?_eq_none (by rw [List.length_take]; omega), List.getElem?_eq_none (by rw [List.length_take]; omega)]
    rw [srtI_len] at this
    exact this
theorem clone_ev (l : List Item) (s : Value) (h : Heap) (hs : SL itemE 3 h s l) (hl : l.length < 900000) :
    WPo (EF Tryd.prog O0 26 [s] h) fun q => OW itemE 3 q.2 q.1 l ∧ Fresh h.next q.1 ∧ Ext h q.2 := by
  rw [EF_body (O := O0) (by kernel_rfl) Tryd.func26 rfl (rs := [.tmp 2]) rfl (bad := []) (by kernel_rfl) _ _ (m := 8) rfl]
  cases hs with
  | nil =>
    simp (maxSteps := 1000000) (disch := first | decide | omega | (simp only [go_sem]; first | done | omega)) only [go_sem, Int.reduceToNat, Nat.reduceMul, Nat.reduceAdd, Nat.reduceSub, ↓EU_region, ↓EU_draw]
    exact ⟨OW.nil, Fresh.nil _ _ _, Ext.refl h⟩
  | mk b o c l cs hb hc hll hx hcap hq =>
    simp (maxSteps := 1000000) (disch := first | decide | omega | (simp only [go_sem]; first | done | omega)) only [go_sem, Int.reduceToNat, Nat.reduceMul, Nat.reduceAdd, Nat.reduceSub, ↓EU_region, ↓EU_draw]
    repeat refine WPo_ob ?_
    have hs := SL.mk b o c l cs hb hc hll hx hcap hq
    have o0 := OW.lit itemE_len h []
    simp only [List.flatMap_nil, List.length_nil] at o0
    refine append_gr (e := itemE) (l := []) (l' := l) fc_ap_22_22 itemE_len (by decide) itemE_scal o0 (hs.ext ((Ext.refl h).push _)) (by simp only [List.length_nil]; omega) (by simp only [List.length_nil]; omega) fun v3 h3 o3 gr => ?_
    have gn := gr.new
    simp (maxSteps := 1000000) (disch := first | decide | omega | (simp only [go_sem]; first | done | omega)) only [go_sem, Int.reduceToNat, Nat.reduceMul, Nat.reduceAdd, Nat.reduceSub, ↓EU_region, ↓EU_draw]
    exact ⟨o3, gn.2, gn.1⟩
theorem delete_ev (l : List Item) (s : Value) (h : Heap) (ho : OW itemE 3 h s l) (i : Nat) (hi : i < l.length) (hl : l.length < 900000) :
    WPo (EF Tryd.prog O0 29 [s, .int .i64 (i : Int), .int .i64 ((i + 1 : Nat) : Int)] h) fun q => OW itemE 3 q.2 q.1 (l.eraseIdx i) ∧ (∀ j, blkOf q.1 j → blkOf s j) ∧ Mod (blkOf s) h q.2 ∧ q.2.next = h.next := by
  obtain ⟨x, hx⟩ : ∃ x, l[i]? = some x := ⟨_, List.getElem?_eq_getElem hi⟩
  obtain ⟨b, o, c, rfl, hb, _, _⟩ := ho.sl.at hx rfl
  obtain ⟨cs, _, hc, hcap, hll, _⟩ := ho.parts
  have ht : slT Tryd.prog 22 = some 3 := fc_sl_22
  have c3 : ∃ u, CUT Tryd.prog h 22 (.slice (some ⟨b, o, none⟩) l.length c) (some (.int .i64 (i : Int))) (some (.int .i64 ((i + 1 : Nat) : Int))) (some (.int .i64 (l.length : Int))) = some (u, h) := by
    have ends : cutEnds l.length (c / 2) (some (.int .i64 (i : Int))) (some (.int .i64 ((i + 1 : Nat) : Int))) (some (.int .i64 (l.length : Int))) = some (i, i + 1, l.length, true) := by
      unfold cutEnds
      simp only [natOf_nat, ble_nat hcap, cnd_true, ble_nat (show i + 1 ≤ l.length from hi), ble_nat (Nat.le_succ i)]
    rw [CUT_sl, ht, ob_s, ends, ob_s]
    unfold evCutSl
    rw [Bool.true_or, cnd_true]
    exact ⟨_, rfl⟩
  obtain ⟨u0, c3⟩ := c3
  have c1 := cut_own (P := Tryd.prog) (t := 22) ht ho .i64 (Nat.le_of_lt hi)
  obtain ⟨u, c2, su, _⟩ := cut_from (P := Tryd.prog) (t := 22) ht ho.sl .i64 ((i + 1 : Nat) : Int) (i + 1) rfl hi
  have o1 := ho.take (Nat.le_of_lt hi)
  have tl : (l.take i).length = i := by rw [List.length_take]; omega
  have dl : (l.drop (i + 1)).length = l.length - (i + 1) := List.length_drop
  have ha := append_in (P := Tryd.prog) (l := l.take i) (b := b) (o := o) (c := c) fc_ap_22_22 itemE_len (by decide) itemE_scal (by rw [tl]; exact o1) su (by omega) (by omega) (by omega)
  obtain ⟨h2, a1, o2, m2, n2⟩ := ha
  have hE : l.eraseIdx i = l.take i ++ l.drop (i + 1) := List.eraseIdx_eq_take_drop_succ l i
  obtain ⟨L, hL⟩ : ∃ L, L = l.eraseIdx i := ⟨_, rfl⟩
  have hLl : L.length = l.length - 1 := by rw [hL, List.length_eraseIdx, if_pos hi]
  have nl : (l.take i).length + (l.drop (i + 1)).length = L.length := by omega
  rw [nl, ← hE, ← hL] at o2
  rw [nl, tl] at a1
  rw [← hL]
  obtain ⟨c', c4⟩ := cut_end (P := Tryd.prog) (t := 22) ht o2 .i64 .i64 (m := l.length) (by omega) hcap
  obtain ⟨h3, e3, o3, m3, n3⟩ := o2.clear (P := Tryd.prog) (t := 22) (m := l.length) (c' := c') (z := [.int .i64 0, .int .i64 0, .int .i64 0]) (by kernel_rfl) rfl rfl (by omega) hcap
  have d0 : decide ((i : Int) = ((i + 1 : Nat) : Int)) = false := decide_eq_false (by omega)
  rw [EF_body (O := O0) (by kernel_rfl) Tryd.func29 rfl (rs := [.tmp 6]) rfl (bad := []) (by kernel_rfl) _ _ (m := 33) rfl]
  simp (maxSteps := 1000000) (disch := first | decide | omega | (simp only [go_sem]; first | done | omega)) only [go_sem, Int.reduceToNat, Nat.reduceMul, Nat.reduceAdd, Nat.reduceSub, ↓EU_region, ↓EU_draw, c3, d0, c1, c2, a1, c4, B_clear, e3]
  exact ⟨o3, fun j q => q, (m2.trans m3).mono fun j _ q => q.symm, by omega⟩
end Go.Proofs.YtmkfdoomoeiibaaDoor.EV
