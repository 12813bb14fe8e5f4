/- Contract: code.Get. No condition. -/
import Derived.Test.YtddgcakiceodgaaGreatCode2
namespace Go.Proofs.YtddgcakiceodgaaGreat.EV
open Go Go.Proofs
set_option linter.unusedVariables false
set_option linter.unusedSimpArgs false
set_option maxRecDepth 100000
set_option pp.deepTerms false
set_option pp.deepTerms.threshold 20
noncomputable def decItem (b : List UInt8) : Item := ⟨readN (b.take 4), readN ((b.drop 4).take 1), readN ((b.drop 5).take 8)⟩
noncomputable def decs : Nat → List UInt8 → List Item
  | 0, _ => []
  | n + 1, b => decItem b :: decs n (b.drop 13)
noncomputable def bN (b : List UInt8) (i : Nat) : Nat := (b.getD i 0).toNat
theorem readN_pos {l : List UInt8} (h : l.length ≤ 4) : 0 ≤ readN l ∧ readN l < 4294967296 := by
  have h1 := beN_lt l
  have h2 : 256 ^ l.length ≤ 256 ^ 4 := Nat.pow_le_pow_right (by decide) h
  unfold readN sgn64
  rw [if_pos (by omega)]
  omega
theorem decs_len : ∀ (n : Nat) (b : List UInt8), (decs n b).length = n
  | 0, _ => rfl
  | n + 1, b => by rw [decs, List.length_cons, decs_len n]
theorem decs_take : ∀ (n i : Nat) (b : List UInt8), i ≤ n → (decs n b).take i = decs i b
  | _, 0, _, _ => rfl
  | n + 1, i + 1, b, h => by rw [decs, List.take_succ_cons, decs_take n i _ (by omega)]; rfl
theorem decs_snoc : ∀ (i : Nat) (b : List UInt8), decs (i + 1) b = decs i b ++ [decItem (b.drop (13 * i))]
  | 0, b => rfl
  | i + 1, b => by
    rw [decs, decs_snoc i, decs, List.cons_append, List.drop_drop, show 13 * (i + 1) = 13 + 13 * i by omega]
/-- of what stands behind the head: the tag, the form, the error -/
noncomputable def bodyR (b : List UInt8) : Int × Int × List Item × Int :=
  if b.length < 6 ∨ b.length ≠ 6 + 13 * bN b 5 then (0, 0, [], 8)
  else if cgood (bN b 0) (readN ((b.drop 1).take 4) - 1) (decs (bN b 5) (b.drop 6)) then (bN b 0, readN ((b.drop 1).take 4) - 1, decs (bN b 5) (b.drop 6), 0) else (0, 0, [], 11)
noncomputable def getR (l : List UInt8) : Int × Int × List Item × Int :=
  if (openR l).2.2 ≠ 0 then (0, 0, [], (openR l).2.2) else if (openR l).2.1 ≠ 3 then (0, 0, [], 10) else bodyR (openR l).1
theorem cget_ev (l : List UInt8) (s : Value) (h : Heap) (hs : SL byteE 1 h s l) (hl : l.length < 700000) :
    WPo (EF Tryz.prog O0 83 [s] h) fun q => ∃ v, q.1 = .tuple ⟨[.int .i64 (getR l).1, formV (getR l).2.1 v, .int .i64 (getR l).2.2.2]⟩ ∧ OW itemE 3 q.2 v (getR l).2.2.1 ∧ Fresh h.next v ∧ Ext h q.2 := by
  rw [EF_body (O := O0) (by kernel_rfl) Tryz.func83 rfl (rs := [.tmp 2, .cell 3 24, .tmp 4]) rfl (bad := []) (by kernel_rfl) _ _ (m := 94) rfl]
  unfold formV
  simp (maxSteps := 1000000) (disch := first | decide | omega | (simp only [go_sem]; first | done | omega)) only [go_sem, Int.reduceToNat, Nat.reduceMul, Nat.reduceAdd, Nat.reduceSub, ↓EU_region, ↓EU_draw]
  repeat refine WPo_ob ?_
  refine (open_ev l s _ (hs.ext ((Ext.refl h).push _)) (by omega)).mono ?_
  rintro ⟨w, h1⟩ ⟨u, rfl, x1, su, fu⟩
  simp only at x1 su fu
  have hn1 := x1.le
  rw [next_push] at hn1
  have hc1 : h1.get h.next = .cells [.int .i64 0, .slice none 0 1] 0 := by rw [x1.old _ (by rw [next_push]; omega)]; exact get_push_new _ _
  have hol : (openR l).1.length ≤ l.length := by
    unfold openR
    cases ho : openN l with
    | none => exact Nat.zero_le _
    | some b =>
      have := openN_len ho
      dsimp only
      cases hb : versionN b with
      | none => exact Nat.zero_le _
      | some v => dsimp only; rw [List.length_drop]; omega
  have hgR : getR l = if (openR l).2.2 ≠ 0 then (0, 0, [], (openR l).2.2) else if (openR l).2.1 ≠ 3 then (0, 0, [], 10) else bodyR (openR l).1 := rfl
  revert hgR su hol
  generalize (openR l).2.2 = e
  generalize (openR l).2.1 = vv
  generalize (openR l).1 = b
  intro su hol hgR
  have xe : Ext h h1 := ((Ext.refl h).push _).trans x1
  have hb5 : 6 ≤ b.length → ∀ hx : Heap, SL byteE 1 hx u b → ∀ i, i < 6 → ∃ B o c, u = .slice (some ⟨B, o, none⟩) b.length c ∧ rdc1 (hx.get B) (o + i) = some (.int .u8 (bN b i)) := by
    intro h6 hx sx i hi
    obtain ⟨x, hx'⟩ : ∃ x, b[i]? = some x := ⟨_, List.getElem?_eq_getElem (by omega)⟩
    obtain ⟨B, o, c, e, _, _, hr⟩ := sx.at hx' rfl
    have := hr 0 _ rfl
    rw [Nat.mul_one, Nat.add_zero] at this
    refine ⟨B, o, c, e, ?_⟩
    rw [this]
    unfold bN
    rw [List.getD_eq_getElem?_getD, hx']; rfl
  obtain ⟨au, ku, hu⟩ := su.val
  simp (maxSteps := 1000000) (disch := first | decide | omega | (simp only [go_sem]; first | done | omega)) only [go_sem, Int.reduceToNat, Nat.reduceMul, Nat.reduceAdd, Nat.reduceSub, ↓EU_region, ↓EU_draw, hc1]
  ((repeat refine WPo_ob ?_); (first | refine WPo_cond (fun b1 => ?_) (fun b1 => ?_) | refine WPo_gard (fun b1 => ?_) (fun b1 => ?_) | refine WPo_gardT (fun b1 => ?_) (fun b1 => ?_)) <;> (try simp only [Bool.not_eq_true', Bool.not_eq_false'] at b1))
  · have b1' := b1
    simp only [decide_eq_false_iff_not] at b1'
    rw [if_pos b1'] at hgR
    rw [hgR]
    simp (maxSteps := 1000000) (disch := first | decide | omega | (simp only [go_sem]; first | done | omega)) only [go_sem, Int.reduceToNat, Nat.reduceMul, Nat.reduceAdd, Nat.reduceSub, ↓EU_region, ↓EU_draw, hc1]
    exact ⟨_, rfl, OW.nil, Fresh.nil _ _ _, xe.set _ _ (Nat.le_refl _)⟩
  · have b1' := b1
    simp only [decide_eq_true_eq] at b1'
    rw [if_neg (by omega)] at hgR
    simp (maxSteps := 1000000) (disch := first | decide | omega | (simp only [go_sem]; first | done | omega)) only [go_sem, Int.reduceToNat, Nat.reduceMul, Nat.reduceAdd, Nat.reduceSub, ↓EU_region, ↓EU_draw, hc1, b1]
    ((repeat refine WPo_ob ?_); (first | refine WPo_cond (fun b2 => ?_) (fun b2 => ?_) | refine WPo_gard (fun b2 => ?_) (fun b2 => ?_) | refine WPo_gardT (fun b2 => ?_) (fun b2 => ?_)) <;> (try simp only [Bool.not_eq_true', Bool.not_eq_false'] at b2))
    · have b2' := b2
      simp only [decide_eq_false_iff_not] at b2'
      rw [if_pos b2'] at hgR
      rw [hgR]
      simp (maxSteps := 1000000) (disch := first | decide | omega | (simp only [go_sem]; first | done | omega)) only [go_sem, Int.reduceToNat, Nat.reduceMul, Nat.reduceAdd, Nat.reduceSub, ↓EU_region, ↓EU_draw, hc1]
      exact ⟨_, rfl, OW.nil, Fresh.nil _ _ _, xe.set _ _ (Nat.le_refl _)⟩
    · have b2' := b2
      simp only [decide_eq_true_eq] at b2'
      rw [if_neg (by omega)] at hgR
      unfold bodyR at hgR
      subst hu
      simp (maxSteps := 1000000) (disch := first | decide | omega | (simp only [go_sem]; first | done | omega)) only [go_sem, Int.reduceToNat, Nat.reduceMul, Nat.reduceAdd, Nat.reduceSub, ↓EU_region, ↓EU_draw, hc1, b2]
      ((repeat refine WPo_ob ?_); (first | refine WPo_cond (fun b3 => ?_) (fun b3 => ?_) | refine WPo_gard (fun b3 => ?_) (fun b3 => ?_) | refine WPo_gardT (fun b3 => ?_) (fun b3 => ?_)) <;> (try simp only [Bool.not_eq_true', Bool.not_eq_false'] at b3))
      · have b3' := b3
        simp only [decide_eq_false_iff_not] at b3'
        obtain ⟨B5, o5, c5, e5, r5⟩ := hb5 (by omega) h1 su 5 (by decide)
        cases e5
        have hw5 : (bN b 5 : Int) < 256 := by unfold bN; have := (b.getD 5 0).toNat_lt; omega
        have hw5' : wrapF .i64 (bN b 5 : Int) = bN b 5 := wrap64 (by omega)
        have hsz := size_ev (bN b 5) h1 (by omega)
        simp (maxSteps := 1000000) (disch := first | decide | omega | (simp only [go_sem]; first | done | omega)) only [go_sem, Int.reduceToNat, Nat.reduceMul, Nat.reduceAdd, Nat.reduceSub, ↓EU_region, ↓EU_draw, r5, hw5', hsz, b3]
        ((repeat refine WPo_ob ?_); (first | refine WPo_cond (fun b4 => ?_) (fun b4 => ?_) | refine WPo_gard (fun b4 => ?_) (fun b4 => ?_) | refine WPo_gardT (fun b4 => ?_) (fun b4 => ?_)) <;> (try simp only [Bool.not_eq_true', Bool.not_eq_false'] at b4))
        · have b4' := b4
          simp only [decide_eq_false_iff_not] at b4'
          rw [if_pos (.inr (by omega))] at hgR
          rw [hgR]
          simp (maxSteps := 1000000) (disch := first | decide | omega | (simp only [go_sem]; first | done | omega)) only [go_sem, Int.reduceToNat, Nat.reduceMul, Nat.reduceAdd, Nat.reduceSub, ↓EU_region, ↓EU_draw, hc1, b4]
          exact ⟨_, rfl, OW.nil, Fresh.nil _ _ _, xe.set _ _ (Nat.le_refl _)⟩
        · have b4' := b4
          simp only [decide_eq_true_eq] at b4'
          have hbl : b.length = 6 + 13 * bN b 5 := by omega
          rw [if_neg (by omega)] at hgR
          obtain ⟨B0, o0, c0, e0, r0⟩ := hb5 (by omega) h1 su 0 (by decide)
          cases e0
          have hw0 : (bN b 0 : Int) < 256 := by unfold bN; have := (b.getD 0 0).toNat_lt; omega
          have hw0' : wrapF .i64 (bN b 0 : Int) = bN b 0 := wrap64 (by omega)
          obtain ⟨u1, hu1, su1, bu1⟩ := cut_from fc_sl_37 su .i64 1 1 rfl (by omega)
          rw [Nat.add_zero] at r0
          simp (maxSteps := 1000000) (disch := first | decide | omega | (simp only [go_sem]; first | done | omega)) only [go_sem, Int.reduceToNat, Nat.reduceMul, Nat.reduceAdd, Nat.reduceSub, ↓EU_region, ↓EU_draw, r0, hw0', b4, hu1]
          repeat refine WPo_ob ?_
          refine (read_ev _ u1 4 h1 su1 (by rw [List.length_drop]; omega) (by decide) (by rw [List.length_drop]; omega)).mono ?_
          rintro _ ⟨u2, rfl, su2, bu2⟩
          have hcur := readN_pos (l := (b.drop 1).take 4) (by rw [List.length_take]; omega)
          have hcw : wrapF .i64 (readN ((b.drop 1).take 4) - 1) = readN ((b.drop 1).take 4) - 1 := wrap64 (by omega)
          generalize hcu : readN ((b.drop 1).take 4) - 1 = cur at *
          obtain ⟨u3, hu3, su3, bu3⟩ := cut_from fc_sl_37 (su2.ext ((Ext.refl h1).push (.cells [.int .i64 cur, .slice none 0 1] 0))) .i64 1 1 rfl (by rw [List.length_drop, List.length_drop]; omega)
          rw [List.drop_drop, List.drop_drop] at su3
          have hb3 : ∀ i, blkOf u3 i → i < h1.next := fun i hi => su2.lt (bu3 i hi)
          rw [show b.drop (1 + 4 + 1) = b.drop 6 from rfl] at su3
          generalize hrest : b.drop 6 = rest at su3 hgR
          have hrl : rest.length = 13 * bN b 5 := by rw [← hrest, List.length_drop]; omega
          generalize hn : bN b 5 = n at *
          simp (maxSteps := 1000000) (disch := first | decide | omega | (simp only [go_sem]; first | done | omega)) only [go_sem, Int.reduceToNat, Nat.reduceMul, Nat.reduceAdd, Nat.reduceSub, ↓EU_region, ↓EU_draw, hcu, hcw, hu3]
          repeat refine WPo_ob ?_
          refine (LP_rule (fun m st => ∃ (i : Nat) (tm : Fr) (h' : Heap) (u v : Value), st = ⟨tm, h', []⟩ ∧ m = n - i ∧ i ≤ n ∧ Fr.get tm 0 = u ∧ Fr.get tm 3 = ptr h.next 0 ∧ Fr.get tm 7 = .int .i64 (bN b 0) ∧ Fr.get tm 9 = ptr h1.next 0 ∧ SL byteE 1 h' u (rest.drop (13 * i)) ∧ (∀ i, blkOf u i → i < h1.next) ∧ h'.get h1.next = .cells [.int .i64 cur, v] 0 ∧ OW itemE 3 h' v (decs i rest) ∧ Fresh (h1.next + 1) v ∧ Ext h1 h' ∧ h1.next < h'.next)
            (fun q => ∃ tm h' v, q.2 = ⟨tm, h', []⟩ ∧ q.1 = .exit 1 ∧ Fr.get tm 3 = ptr h.next 0 ∧ Fr.get tm 7 = .int .i64 (bN b 0) ∧ Fr.get tm 9 = ptr h1.next 0 ∧ h'.get h1.next = .cells [.int .i64 cur, v] 0 ∧ OW itemE 3 h' v (decs n rest) ∧ Fresh (h1.next + 1) v ∧ Ext h1 h' ∧ h1.next < h'.next) ?_ n _ _ ?_ ?_).mono ?_
          · rintro m _ ⟨i, tm, h', u, v, rfl, rfl, hi, g0, g3, g7, g9, sui, hui, hcB, hov, hfv, x', hlt⟩
            obtain ⟨aq, kq, rfl⟩ := sui.val
            have hql : (rest.drop (13 * i)).length = 13 * n - 13 * i := by rw [List.length_drop, hrl]
            simp (maxSteps := 1000000) (disch := first | decide | omega | (simp only [go_sem]; first | done | omega)) only [go_sem, Int.reduceToNat, Nat.reduceMul, Nat.reduceAdd, Nat.reduceSub, ↓EU_region, ↓EU_draw, g0, g3, g7, g9]
            ((repeat refine WPo_ob ?_); (first | refine WPo_cond (fun b5 => ?_) (fun b5 => ?_) | refine WPo_gard (fun b5 => ?_) (fun b5 => ?_) | refine WPo_gardT (fun b5 => ?_) (fun b5 => ?_)) <;> (try simp only [Bool.not_eq_true', Bool.not_eq_false'] at b5))
            · have b5' := b5
              simp only [decide_eq_true_eq] at b5'
              have hin : i < n := by omega
              simp (maxSteps := 1000000) (disch := first | decide | omega | (simp only [go_sem]; first | done | omega)) only [go_sem, Int.reduceToNat, Nat.reduceMul, Nat.reduceAdd, Nat.reduceSub, ↓EU_region, ↓EU_draw, g0, g3, g7, g9]
              repeat refine WPo_ob ?_
              refine (read_ev _ _ 4 h' sui (by omega) (by decide) (by omega)).mono ?_
              rintro _ ⟨w1, rfl, sw1, bw1⟩
              simp (maxSteps := 1000000) (disch := first | decide | omega | (simp only [go_sem]; first | done | omega)) only [go_sem, Int.reduceToNat, Nat.reduceMul, Nat.reduceAdd, Nat.reduceSub, ↓EU_region, ↓EU_draw, g3, g7, g9]
              repeat refine WPo_ob ?_
              refine (read_ev _ _ 1 h' sw1 (by rw [List.length_drop]; omega) (by decide) (by rw [List.length_drop]; omega)).mono ?_
              rintro _ ⟨w2, rfl, sw2, bw2⟩
              simp (maxSteps := 1000000) (disch := first | decide | omega | (simp only [go_sem]; first | done | omega)) only [go_sem, Int.reduceToNat, Nat.reduceMul, Nat.reduceAdd, Nat.reduceSub, ↓EU_region, ↓EU_draw, g3, g7, g9]
              repeat refine WPo_ob ?_
              refine (read_ev _ _ 8 h' sw2 (by rw [List.length_drop, List.length_drop]; omega) (by decide) (by rw [List.length_drop, List.length_drop]; omega)).mono ?_
              rintro _ ⟨w3, rfl, sw3, bw3⟩
              have hd5 : List.drop 1 (List.drop 4 (rest.drop (13 * i))) = (rest.drop (13 * i)).drop 5 := by rw [List.drop_drop]
              have hd13 : List.drop 8 (List.drop 1 (List.drop 4 (rest.drop (13 * i)))) = rest.drop (13 * (i + 1)) := by simp only [List.drop_drop]; congr 1
              rw [hd13] at sw3
              have hsn := decs_snoc i rest
              generalize hit : decItem (rest.drop (13 * i)) = it at hsn
              have hitE : itemE it = [.int .i64 (readN ((rest.drop (13 * i)).take 4)), .int .i64 (readN (((rest.drop (13 * i)).drop 4).take 1)), .int .i64 (readN (((rest.drop (13 * i)).drop 5).take 8))] := by rw [← hit]; rfl
              simp (maxSteps := 1000000) (disch := first | decide | omega | (simp only [go_sem]; first | done | omega)) only [go_sem, Int.reduceToNat, Nat.reduceMul, Nat.reduceAdd, Nat.reduceSub, ↓EU_region, ↓EU_draw, g3, g7, g9, hcB, hd5]
              repeat refine WPo_ob ?_
              have hlit := OW.lit itemE_len h' [it]
              rw [List.flatMap_cons, List.flatMap_nil, List.append_nil, hitE] at hlit
              have hm1 : ∀ j, blkOf v j → h1.next ≤ j := fun j hj => by have := hfv j hj; omega
              refine append_gr (l := decs i rest) (l' := [it]) fc_ap_22_22 itemE_len (by decide) itemE_scal (hov.ext ((Ext.refl h').push _)) hlit.sl (by rw [decs_len]; simp only [List.length_cons, List.length_nil]; omega) (by rw [decs_len]; simp only [List.length_cons, List.length_nil]; omega) fun v' h'' hov' gr => ?_
              rw [← hsn] at hov'
              have hnv : ¬ blkOf v h1.next := fun q => by have := hfv _ q; omega
              have hcB' : h''.get h1.next = .cells [.int .i64 cur, v] 0 := by rw [gr.old _ (by rw [next_push]; omega) hnv, get_push_old _ hlt]; exact hcB
              have hn' := gr.le
              rw [next_push] at hn'
              have hfv' : Fresh (h1.next + 1) v' := gr.fresh hfv (by rw [next_push]; omega)
              obtain ⟨av, kv, rfl⟩ := hov'.val
              rw [decs_len] at *
              simp (maxSteps := 1000000) (disch := first | decide | omega | (simp only [go_sem]; first | done | omega)) only [go_sem, Int.reduceToNat, Nat.reduceMul, Nat.reduceAdd, Nat.reduceSub, ↓EU_region, ↓EU_draw, g3, g7, g9, hcB']
              have hm2 : Mod (fun j => h1.next ≤ j) h' (h''.set h1.next (.cells [.int .i64 cur, .slice av (i + 1) kv] 0)) := ((((Mod.refl _ h').push _).trans (gr.mod.mono fun j _ hj => hm1 j hj))).set _ _ fun _ => Nat.le_refl _
              refine ⟨_, by omega, i + 1, _, _, w3, _, rfl, rfl, by omega, by simp (maxSteps := 1000000) (disch := first | decide | omega | (simp only [go_sem]; first | done | omega)) only [go_sem, Int.reduceToNat, Nat.reduceMul, Nat.reduceAdd, Nat.reduceSub, ↓EU_region, ↓EU_draw], by simp (maxSteps := 1000000) (disch := first | decide | omega | (simp only [go_sem]; first | done | omega)) only [go_sem, Int.reduceToNat, Nat.reduceMul, Nat.reduceAdd, Nat.reduceSub, ↓EU_region, ↓EU_draw, g3], by simp (maxSteps := 1000000) (disch := first | decide | omega | (simp only [go_sem]; first | done | omega)) only [go_sem, Int.reduceToNat, Nat.reduceMul, Nat.reduceAdd, Nat.reduceSub, ↓EU_region, ↓EU_draw, g7], by simp (maxSteps := 1000000) (disch := first | decide | omega | (simp only [go_sem]; first | done | omega)) only [go_sem, Int.reduceToNat, Nat.reduceMul, Nat.reduceAdd, Nat.reduceSub, ↓EU_region, ↓EU_draw, g9], sw3.modB hm2 (fun j hj => by have := hui j (bw1 j (bw2 j (bw3 j hj))); omega), fun j hj => hui j (bw1 j (bw2 j (bw3 j hj))), by simp (maxSteps := 1000000) (disch := first | decide | omega | (simp only [go_sem]; first | done | omega)) only [go_sem, Int.reduceToNat, Nat.reduceMul, Nat.reduceAdd, Nat.reduceSub, ↓EU_region, ↓EU_draw], hov'.mod (Mod.set (S := fun j => j = h1.next) (Mod.refl _ _) _ _ (fun _ => rfl)) (fun j hj q => by have := hfv' j hj; omega), hfv', ?_, by rw [next_set]; omega⟩
              exact ⟨Nat.le_trans x'.le hm2.le, fun j hj => (hm2.old j (Nat.lt_of_lt_of_le hj x'.le) (by omega)).trans (x'.old j hj)⟩
            · have b5' := b5
              simp only [decide_eq_false_iff_not] at b5'
              have : i = n := by omega
              subst this
              simp (maxSteps := 1000000) (disch := first | decide | omega | (simp only [go_sem]; first | done | omega)) only [go_sem, Int.reduceToNat, Nat.reduceMul, Nat.reduceAdd, Nat.reduceSub, ↓EU_region, ↓EU_draw]
              exact ⟨_, _, v, rfl, trivial, by simp (maxSteps := 1000000) (disch := first | decide | omega | (simp only [go_sem]; first | done | omega)) only [go_sem, Int.reduceToNat, Nat.reduceMul, Nat.reduceAdd, Nat.reduceSub, ↓EU_region, ↓EU_draw, g3], by simp (maxSteps := 1000000) (disch := first | decide | omega | (simp only [go_sem]; first | done | omega)) only [go_sem, Int.reduceToNat, Nat.reduceMul, Nat.reduceAdd, Nat.reduceSub, ↓EU_region, ↓EU_draw, g7], by simp (maxSteps := 1000000) (disch := first | decide | omega | (simp only [go_sem]; first | done | omega)) only [go_sem, Int.reduceToNat, Nat.reduceMul, Nat.reduceAdd, Nat.reduceSub, ↓EU_region, ↓EU_draw, g9], hcB, hov, hfv, x', hlt⟩
          · refine ⟨0, _, _, u3, _, rfl, rfl, by omega, by simp (maxSteps := 1000000) (disch := first | decide | omega | (simp only [go_sem]; first | done | omega)) only [go_sem, Int.reduceToNat, Nat.reduceMul, Nat.reduceAdd, Nat.reduceSub, ↓EU_region, ↓EU_draw], by simp (maxSteps := 1000000) (disch := first | decide | omega | (simp only [go_sem]; first | done | omega)) only [go_sem, Int.reduceToNat, Nat.reduceMul, Nat.reduceAdd, Nat.reduceSub, ↓EU_region, ↓EU_draw], by simp (maxSteps := 1000000) (disch := first | decide | omega | (simp only [go_sem]; first | done | omega)) only [go_sem, Int.reduceToNat, Nat.reduceMul, Nat.reduceAdd, Nat.reduceSub, ↓EU_region, ↓EU_draw], by simp (maxSteps := 1000000) (disch := first | decide | omega | (simp only [go_sem]; first | done | omega)) only [go_sem, Int.reduceToNat, Nat.reduceMul, Nat.reduceAdd, Nat.reduceSub, ↓EU_region, ↓EU_draw], su3, hb3, get_push_new _ _, OW.nil, Fresh.nil _ _ _, (Ext.refl _).push _, by rw [next_push]; omega⟩
          · omega
          · rintro ⟨q, _⟩ ⟨tm, h', v, rfl, rfl, g3, g7, g9, hcB, hov, hfv, x', hlt⟩
            simp (maxSteps := 1000000) (disch := first | decide | omega | (simp only [go_sem]; first | done | omega)) only [go_sem, Int.reduceToNat, Nat.reduceMul, Nat.reduceAdd, Nat.reduceSub, ↓EU_region, ↓EU_draw, g3, g7, g9, hcB]
            repeat refine WPo_ob ?_
            refine (cgood_ev _ _ _ _ h' hov.sl (by rw [decs_len]; omega)).bind fun h'' x'' => ?_
            have hcB'' : h''.get h1.next = .cells [.int .i64 cur, v] 0 := by rw [x''.old _ hlt]; exact hcB
            have hcR : h''.get h.next = .cells [.int .i64 0, .slice none 0 1] 0 := by rw [x''.old _ (by omega), x'.old _ (by omega)]; exact hc1
            have hn' := x'.le
            have hn'' := x''.le
            simp (maxSteps := 1000000) (disch := first | decide | omega | (simp only [go_sem]; first | done | omega)) only [go_sem, Int.reduceToNat, Nat.reduceMul, Nat.reduceAdd, Nat.reduceSub, ↓EU_region, ↓EU_draw, g3, g7, g9]
            ((repeat refine WPo_ob ?_); (first | refine WPo_cond (fun b6 => ?_) (fun b6 => ?_) | refine WPo_gard (fun b6 => ?_) (fun b6 => ?_) | refine WPo_gardT (fun b6 => ?_) (fun b6 => ?_)) <;> (try simp only [Bool.not_eq_true', Bool.not_eq_false'] at b6))
            · rw [b6, if_neg (by simp)] at hgR
              rw [hgR]
              simp (maxSteps := 1000000) (disch := first | decide | omega | (simp only [go_sem]; first | done | omega)) only [go_sem, Int.reduceToNat, Nat.reduceMul, Nat.reduceAdd, Nat.reduceSub, ↓EU_region, ↓EU_draw, g3, g7, g9, hcB'', hcR, b6]
              exact ⟨_, rfl, OW.nil, Fresh.nil _ _ _, ((xe.trans x').trans x'').set _ _ (Nat.le_refl _)⟩
            · rw [b6, if_pos rfl] at hgR
              rw [hgR]
              obtain ⟨av, kv, rfl⟩ := hov.val
              simp (maxSteps := 1000000) (disch := first | decide | omega | (simp only [go_sem]; first | done | omega)) only [go_sem, Int.reduceToNat, Nat.reduceMul, Nat.reduceAdd, Nat.reduceSub, ↓EU_region, ↓EU_draw, g3, g7, g9, hcB'', hcR, b6]
              refine ⟨_, rfl, (hov.ext x'').mod (Mod.set (S := fun j => j = h.next) (Mod.refl _ _) _ _ (fun _ => rfl)) (fun j hj q => by have := hfv j hj; omega), hfv.mono (by omega), ((xe.trans x').trans x'').set _ _ (Nat.le_refl _)⟩
      · have b3' := b3
        simp only [decide_eq_true_eq] at b3'
        rw [if_pos (.inl (by omega))] at hgR
        rw [hgR]
        simp (maxSteps := 1000000) (disch := first | decide | omega | (simp only [go_sem]; first | done | omega)) only [go_sem, Int.reduceToNat, Nat.reduceMul, Nat.reduceAdd, Nat.reduceSub, ↓EU_region, ↓EU_draw, hc1, b3]
        exact ⟨_, rfl, OW.nil, Fresh.nil _ _ _, xe.set _ _ (Nat.le_refl _)⟩
end Go.Proofs.YtddgcakiceodgaaGreat.EV
