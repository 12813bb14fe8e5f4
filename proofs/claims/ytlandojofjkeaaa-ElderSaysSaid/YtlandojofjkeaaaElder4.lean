/- Contracts: elder's One (and what it asks of items). No condition. -/
import Derived.Test.YtlandojofjkeaaaElder3
namespace Go.Proofs.Ytlandojofjkeaaa.EV
open Go Go.Proofs
set_option linter.unusedVariables false
set_option linter.unusedSimpArgs false
set_option maxRecDepth 100000
set_option pp.deepTerms false
set_option pp.deepTerms.threshold 20
theorem contains_ev (l : List Item) (s : Value) (p : Item → Bool) (g : FuncId) (y : List Value) (h : Heap) (hs : SL itemE 3 h s l) (hl : l.length < 900000)
    (hp : ∀ x ∈ l, ∀ h', Ext h h' → Pu (EF Try.prog O0 g (.agg ⟨itemE x⟩ :: y) h') h' (.bool (p x))) :
    Pu (EF Try.prog O0 30 [s, .func (.func g) ⟨[]⟩ ⟨y⟩] h) h (.bool (l.any p)) := by
  have hI := indexFunc_ev l s p g y h hs hl hp
  unfold Pu
  rw [EF_body (O := O0) (by kernel_rfl) Try.func30 rfl (rs := [.tmp 4]) rfl (bad := []) (by kernel_rfl) _ _ (m := 9) rfl]
  simp (maxSteps := 1000000) (disch := first | decide | omega | (simp only [go_sem]; first | done | omega)) only [go_sem, Int.reduceToNat, Nat.reduceMul, Nat.reduceAdd, Nat.reduceSub, ↓EU_region, ↓EU_draw]
  repeat refine WPo_ob ?_
  refine hI.bind fun h1 x1 => ?_
  have hd : decide (0 ≤ idx p l) = l.any p := by
    have := idx_neg (p := p) (l := l)
    rw [show decide (0 ≤ idx p l) = !decide (idx p l < 0) by rw [← decide_not]; congr 1; simp, this, Bool.not_not]
  simp (maxSteps := 1000000) (disch := first | decide | omega | (simp only [go_sem]; first | done | omega)) only [go_sem, Int.reduceToNat, Nat.reduceMul, Nat.reduceAdd, Nat.reduceSub, ↓EU_region, ↓EU_draw, hd]
  exact ⟨trivial, x1⟩
noncomputable def odd1 (x : Item) : Bool := decide (65535 < x.id) || !decide (x.lag = 0)
theorem odd1_ev (x : Item) (h : Heap) : Pu (EF Try.prog O0 31 [.agg ⟨itemE x⟩] h) h (.bool (odd1 x)) := by
  unfold Pu odd1
  rw [EF_body (O := O0) (by kernel_rfl) Try.func31 rfl (rs := [.tmp 2]) rfl (bad := []) (by kernel_rfl) _ _ (m := 11) rfl]
  simp (maxSteps := 1000000) (disch := first | decide | omega | (simp only [go_sem]; first | done | omega)) only [go_sem, Int.reduceToNat, Nat.reduceMul, Nat.reduceAdd, Nat.reduceSub, ↓EU_region, ↓EU_draw]
  repeat' (((repeat refine WPo_ob ?_); (first | refine WPo_cond (fun hb => ?_) (fun hb => ?_) | refine WPo_gard (fun hb => ?_) (fun hb => ?_) | refine WPo_gardT (fun hb => ?_) (fun hb => ?_)) <;> (try simp only [Bool.not_eq_true', Bool.not_eq_false'] at hb)) <;> (simp (maxSteps := 1000000) (disch := first | decide | omega | (simp only [go_sem]; first | done | omega)) only [go_sem, Int.reduceToNat, Nat.reduceMul, Nat.reduceAdd, Nat.reduceSub, ↓EU_region, ↓EU_draw, hb]))
  all_goals exact ⟨by simp [*], (Ext.refl h).push _⟩
noncomputable def encIt1 (x : Item) : List UInt8 := numB x.id 2 ++ [byteI x.w 0]
noncomputable def encV1 (tag : Int) (l : List Item) : List UInt8 := [83, 72, 1, byteI tag 0, byteI (l.length : Int) 0] ++ l.flatMap encIt1
theorem encIt1_len (x : Item) : (encIt1 x).length = 3 := by
  unfold encIt1
  rw [List.length_append, numB_len]; rfl
theorem flatMap_len1 (l : List Item) : (l.flatMap encIt1).length = 3 * l.length := by
  induction l with
  | nil => rfl
  | cons x l ih => rw [List.flatMap_cons, List.length_append, ih, encIt1_len, List.length_cons]; omega
noncomputable def can1 (cur : Int) (l : List Item) : Bool := decide (cur = -1) && !l.any odd1
theorem one_ev (tag cur : Int) (l : List Item) (s : Value) (h : Heap) (hs : SL itemE 3 h s l) (hl : l.length < 800000) :
    WPo (EF Try.prog O0 13 [.int .i64 tag, formV cur s] h) fun q => Ext h q.2 ∧ ∃ u, q.1 = .tuple ⟨[u, .int .i64 (if cgood tag cur l then (if can1 cur l then 0 else 7) else 1)]⟩ ∧ SL byteE 1 q.2 u (if cgood tag cur l then (if can1 cur l then sealN (encV1 tag l) else []) else []) := by
  have hG := cgood_ev tag cur l s (h.push (.cells [.int .i64 cur, s] 0)) (hs.ext ((Ext.refl h).push _)) (by omega)
  rw [EF_body (O := O0) (by kernel_rfl) Try.func13 rfl (rs := [.tmp 4, .tmp 5]) rfl (bad := [9]) (by kernel_rfl) _ _ (m := 47) rfl]
  obtain ⟨a, c, hv⟩ := hs.val
  subst hv
  unfold formV at hG ⊢
  simp (maxSteps := 1000000) (disch := first | decide | omega | (simp only [go_sem]; first | done | omega)) only [go_sem, Int.reduceToNat, Nat.reduceMul, Nat.reduceAdd, Nat.reduceSub, ↓EU_region, ↓EU_draw]
  repeat refine WPo_ob ?_
  refine hG.bind fun h1 x1 => ?_
  have hx1 := ((Ext.refl h).push (.cells [.int .i64 cur, .slice a l.length c] 0)).trans x1
  have hF1 : h1.get h.next = .cells [.int .i64 cur, .slice a l.length c] 0 := by rw [x1.old _ (by rw [next_push]; omega)]; exact get_push_new _ _
  cases hg : cgood tag cur l with
  | false =>
    simp (maxSteps := 1000000) (disch := first | decide | omega | (simp only [go_sem]; first | done | omega)) only [go_sem, Int.reduceToNat, Nat.reduceMul, Nat.reduceAdd, Nat.reduceSub, ↓EU_region, ↓EU_draw]
    exact ⟨hx1, _, rfl, SL.nil⟩
  | true =>
    have hgf := (cgood_facts hg).2.2
    obtain ⟨f1, f2, f3, f4⟩ := good_facts hgf
    have hn1 := x1.le
    rw [next_push] at hn1
    simp (maxSteps := 1000000) (disch := first | decide | omega | (simp only [go_sem]; first | done | omega)) only [go_sem, Int.reduceToNat, Nat.reduceMul, Nat.reduceAdd, Nat.reduceSub, ↓EU_region, ↓EU_draw, hF1]
    ((repeat refine WPo_ob ?_); (first | refine WPo_cond (fun b1 => ?_) (fun b1 => ?_) | refine WPo_gard (fun b1 => ?_) (fun b1 => ?_) | refine WPo_gardT (fun b1 => ?_) (fun b1 => ?_)) <;> (try simp only [Bool.not_eq_true', Bool.not_eq_false'] at b1))
    · have b1' := b1
      simp only [decide_eq_true_eq] at b1'
      subst b1'
      simp (maxSteps := 1000000) (disch := first | decide | omega | (simp only [go_sem]; first | done | omega)) only [go_sem, Int.reduceToNat, Nat.reduceMul, Nat.reduceAdd, Nat.reduceSub, ↓EU_region, ↓EU_draw, dec_t, dec_f, hF1]
      repeat refine WPo_ob ?_
      refine (contains_ev l _ odd1 31 [] h1 (hs.ext hx1) (by omega) (fun x _ h' _ => odd1_ev x h')).bind fun h2 x2 => ?_
      have hF2 : h2.get h.next = .cells [.int .i64 (-1), .slice a l.length c] 0 := by rw [x2.old _ (by omega)]; exact hF1
      have hx2 := hx1.trans x2
      have hn2 := x2.le
      unfold can1
      cases ho : l.any odd1 with
      | true =>
        simp (maxSteps := 1000000) (disch := first | decide | omega | (simp only [go_sem]; first | done | omega)) only [go_sem, Int.reduceToNat, Nat.reduceMul, Nat.reduceAdd, Nat.reduceSub, ↓EU_region, ↓EU_draw, dec_t, dec_f, ho]
        exact ⟨hx2, _, rfl, SL.nil⟩
      | false =>
        have hwt : wrapF .u8 tag = ((byteI tag 0).toNat : Int) := conv_i8 tag
        have hwl : wrapF .u8 (l.length : Int) = ((byteI (l.length : Int) 0).toNat : Int) := conv_i8 _
        simp (maxSteps := 1000000) (disch := first | decide | omega | (simp only [go_sem]; first | done | omega)) only [go_sem, Int.reduceToNat, Nat.reduceMul, Nat.reduceAdd, Nat.reduceSub, ↓EU_region, ↓EU_draw, dec_t, dec_f, ho, hF2, hwt, hwl]
        repeat refine WPo_ob ?_
        have hlit := OW.lit byteE_len h2 [83, 72, 1, byteI tag 0, byteI (l.length : Int) 0]
        have hE : encV1 tag l = [83, 72, 1, byteI tag 0, byteI (l.length : Int) 0] ++ l.flatMap encIt1 := rfl
        have hx := hs.ext hx2
        refine (LP_rule (fun m st => ∃ (i : Nat) (tm : Fr) (h' : Heap) (v : Value), st = ⟨tm, h', []⟩ ∧ m = l.length - i ∧ i ≤ l.length ∧ Fr.get tm 6 = v ∧ Fr.get tm 29 = .slice a l.length c ∧ Fr.get tm 30 = .int .i64 l.length ∧ Fr.get tm 31 = .int .i64 i ∧ OW byteE 1 h' v ([83, 72, 1, byteI tag 0, byteI (l.length : Int) 0] ++ (l.take i).flatMap encIt1) ∧ Fresh h2.next v ∧ Ext h2 h')
          (fun q => ∃ tm h' v, q.2 = ⟨tm, h', []⟩ ∧ q.1 = .exit 0 ∧ Fr.get tm 6 = v ∧ OW byteE 1 h' v (encV1 tag l) ∧ Fresh h2.next v ∧ Ext h2 h') ?_ l.length _ _ ?_ ?_).mono ?_
        · rintro m _ ⟨i, tm, h', v, rfl, rfl, hi, g6, g29, g30, g31, ho', hf', x'⟩
          simp (maxSteps := 1000000) (disch := first | decide | omega | (simp only [go_sem]; first | done | omega)) only [go_sem, Int.reduceToNat, Nat.reduceMul, Nat.reduceAdd, Nat.reduceSub, ↓EU_region, ↓EU_draw, g6, g29, g30, g31]
          ((repeat refine WPo_ob ?_); (first | refine WPo_cond (fun b3 => ?_) (fun b3 => ?_) | refine WPo_gard (fun b3 => ?_) (fun b3 => ?_) | refine WPo_gardT (fun b3 => ?_) (fun b3 => ?_)) <;> (try simp only [Bool.not_eq_true', Bool.not_eq_false'] at b3))
          · have b3' := b3
            simp only [decide_eq_true_eq] at b3'
            have hi' : i < l.length := by omega
            obtain ⟨x, hx'⟩ : ∃ x, l[i]? = some x := ⟨_, List.getElem?_eq_getElem hi'⟩
            obtain ⟨b, o, c', e, hb', hrd, hr⟩ := hx.at hx' rfl
            cases e
            rw [← x'.old b hb'] at hrd hr
            have hil : (l.take i).length = i := by rw [List.length_take]; omega
            have hfl := flatMap_len1 (l.take i)
            rw [hil] at hfl
            have hwx : wrapF .u8 x.w = ((byteI x.w 0).toNat : Int) := conv_i8 _
            have hnx : [83, 72, 1, byteI tag 0, byteI (l.length : Int) 0] ++ (l.take (i + 1)).flatMap encIt1 = [83, 72, 1, byteI tag 0, byteI (l.length : Int) 0] ++ (l.take i).flatMap encIt1 ++ numB x.id 2 ++ [byteI x.w 0] := by
              rw [List.take_add_one, hx']
              simp [encIt1]
            simp (maxSteps := 1000000) (disch := first | decide | omega | (simp only [go_sem]; first | done | omega)) only [go_sem, Int.reduceToNat, Nat.reduceMul, Nat.reduceAdd, Nat.reduceSub, g6, g29, g30, g31, hrd]
            (first | rw [EU_region] | rw [EU_draw _ _ rfl]); simp (maxSteps := 1000000) (disch := first | decide | omega | (simp only [go_sem]; first | done | omega)) only [go_sem, Int.reduceToNat, Nat.reduceMul, Nat.reduceAdd, Nat.reduceSub, g6, g29, g30, g31, hrd]
            rw [EU_bad _ _ rfl, EC_tab (tab := [(false, none), (false, none), (false, none), (true, none), (false, none), (false, (some (0, 1))), (false, none), (true, none), (true, none), (false, none)]) (by kernel_rfl)]
            simp (maxSteps := 1000000) (disch := first | decide | omega | (simp only [go_sem]; first | done | omega)) only [go_sem, Int.reduceToNat, Nat.reduceMul, Nat.reduceAdd, Nat.reduceSub, ↓EU_region, ↓EU_draw, g6, g29, g30, g31, hrd]
            repeat refine WPo_ob ?_
            refine (number_ev _ v x.id 2 _ (ho'.ext ((Ext.refl h').push _)) (by decide) (by rw [List.length_append]; simp only [List.length_cons, List.length_nil]; omega)).mono ?_
            rintro ⟨v4, h4⟩ ⟨ho4, gr4⟩
            simp only at ho4 gr4
            have hv' : ¬ blkOf v h'.next := fun q => by have := ho'.lt q; omega
            have hc4 : h4.get h'.next = .cells (itemE x) 0 := by rw [gr4.old _ (by rw [next_push]; omega) hv']; exact get_push_new _ _
            have hn4 := gr4.le
            rw [next_push] at hn4
            simp (maxSteps := 1000000) (disch := first | decide | omega | (simp only [go_sem]; first | done | omega)) only [go_sem, Int.reduceToNat, Nat.reduceMul, Nat.reduceAdd, Nat.reduceSub, ↓EU_region, ↓EU_draw, hc4, hwx]
            repeat refine WPo_ob ?_
            refine append_gr (l := [83, 72, 1, byteI tag 0, byteI (l.length : Int) 0] ++ (l.take i).flatMap encIt1 ++ numB x.id 2) (l' := [byteI x.w 0]) fc_ap_22_22 (fun _ => rfl) (by decide) byteE_scal (ho4.ext ((Ext.refl h4).push _)) (OW.lit byteE_len h4 [byteI x.w 0]).sl (by simp only [List.length_append, numB_len, List.length_cons, List.length_nil]; omega) (by simp only [List.length_append, numB_len, List.length_cons, List.length_nil]; omega) fun v5 h5 ho5 gr5 => ?_
            rw [← hnx] at ho5
            have gr : Gr v (h'.push (.cells (itemE x) 0)) v5 h5 := (gr4.push _).trans gr5
            simp (maxSteps := 1000000) (disch := first | decide | omega | (simp only [go_sem]; first | done | omega)) only [go_sem, Int.reduceToNat, Nat.reduceMul, Nat.reduceAdd, Nat.reduceSub, ↓EU_region, ↓EU_draw, g29, g30, g31, hc4]
            exact ⟨_, by omega, i + 1, _, h5, v5, rfl, rfl, by omega, by simp (maxSteps := 1000000) (disch := first | decide | omega | (simp only [go_sem]; first | done | omega)) only [go_sem, Int.reduceToNat, Nat.reduceMul, Nat.reduceAdd, Nat.reduceSub, ↓EU_region, ↓EU_draw], by simp (maxSteps := 1000000) (disch := first | decide | omega | (simp only [go_sem]; first | done | omega)) only [go_sem, Int.reduceToNat, Nat.reduceMul, Nat.reduceAdd, Nat.reduceSub, ↓EU_region, ↓EU_draw, g29], by simp (maxSteps := 1000000) (disch := first | decide | omega | (simp only [go_sem]; first | done | omega)) only [go_sem, Int.reduceToNat, Nat.reduceMul, Nat.reduceAdd, Nat.reduceSub, ↓EU_region, ↓EU_draw, g30], by simp (maxSteps := 1000000) (disch := first | decide | omega | (simp only [go_sem]; first | done | omega)) only [go_sem, Int.reduceToNat, Nat.reduceMul, Nat.reduceAdd, Nat.reduceSub, ↓EU_region, ↓EU_draw], ho5, gr.fresh hf' (by have := x'.le; rw [next_push]; omega), gr.ext0 (x'.push _) hf'⟩
          · simp only [decide_eq_false_iff_not] at b3
            have : i = l.length := by omega
            subst this
            rw [List.take_length] at ho'
            simp (maxSteps := 1000000) (disch := first | decide | omega | (simp only [go_sem]; first | done | omega)) only [go_sem, Int.reduceToNat, Nat.reduceMul, Nat.reduceAdd, Nat.reduceSub, ↓EU_region, ↓EU_draw]
            exact ⟨_, _, v, rfl, trivial, by simp (maxSteps := 1000000) (disch := first | decide | omega | (simp only [go_sem]; first | done | omega)) only [go_sem, Int.reduceToNat, Nat.reduceMul, Nat.reduceAdd, Nat.reduceSub, ↓EU_region, ↓EU_draw, g6], ho', hf', x'⟩
        · refine ⟨0, _, _, .slice (some ⟨h2.next, 0, none⟩) 5 11, rfl, rfl, by omega, by simp (maxSteps := 1000000) (disch := first | decide | omega | (simp only [go_sem]; first | done | omega)) only [go_sem, Int.reduceToNat, Nat.reduceMul, Nat.reduceAdd, Nat.reduceSub, ↓EU_region, ↓EU_draw], by simp (maxSteps := 1000000) (disch := first | decide | omega | (simp only [go_sem]; first | done | omega)) only [go_sem, Int.reduceToNat, Nat.reduceMul, Nat.reduceAdd, Nat.reduceSub, ↓EU_region, ↓EU_draw], by simp (maxSteps := 1000000) (disch := first | decide | omega | (simp only [go_sem]; first | done | omega)) only [go_sem, Int.reduceToNat, Nat.reduceMul, Nat.reduceAdd, Nat.reduceSub, ↓EU_region, ↓EU_draw], by simp (maxSteps := 1000000) (disch := first | decide | omega | (simp only [go_sem]; first | done | omega)) only [go_sem, Int.reduceToNat, Nat.reduceMul, Nat.reduceAdd, Nat.reduceSub, ↓EU_region, ↓EU_draw]; rfl, ?_, Fresh.mk _ _ _ (Nat.le_refl _), (Ext.refl _).push _⟩
          rw [List.take_zero, List.flatMap_nil, List.append_nil]; exact hlit
        · omega
        · rintro ⟨q, _⟩ ⟨tm, h', v, rfl, rfl, g6, ho', hf', x'⟩
          simp (maxSteps := 1000000) (disch := first | decide | omega | (simp only [go_sem]; first | done | omega)) only [go_sem, Int.reduceToNat, Nat.reduceMul, Nat.reduceAdd, Nat.reduceSub, ↓EU_region, ↓EU_draw, g6]
          repeat refine WPo_ob ?_
          refine (put_ev _ v h' ho'.sl (by rw [hE, List.length_append, flatMap_len1]; simp only [List.length_cons, List.length_nil]; omega)).mono ?_
          rintro ⟨u, h''⟩ ⟨hou, hfu, xu⟩
          simp only at hou hfu xu
          simp (maxSteps := 1000000) (disch := first | decide | omega | (simp only [go_sem]; first | done | omega)) only [go_sem, Int.reduceToNat, Nat.reduceMul, Nat.reduceAdd, Nat.reduceSub, ↓EU_region, ↓EU_draw]
          exact ⟨hx2.trans (x'.trans xu), _, rfl, hou.sl⟩
    · have hcn : can1 cur l = false := by unfold can1; rw [b1]; rfl
      rw [hcn]
      simp (maxSteps := 1000000) (disch := first | decide | omega | (simp only [go_sem]; first | done | omega)) only [go_sem, Int.reduceToNat, Nat.reduceMul, Nat.reduceAdd, Nat.reduceSub, ↓EU_region, ↓EU_draw, dec_t, dec_f, b1, hF1]
      exact ⟨hx1, _, rfl, SL.nil⟩
end Go.Proofs.Ytlandojofjkeaaa.EV
