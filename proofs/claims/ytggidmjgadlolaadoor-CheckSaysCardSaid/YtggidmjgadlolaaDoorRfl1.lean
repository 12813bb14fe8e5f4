/- Contract: the reference's Bad. No condition. -/
import Derived.Test.YtggidmjgadlolaaDoorChk2
namespace Go.Proofs.YtggidmjgadlolaaDoor.EV
open Go Go.Proofs
set_option linter.unusedVariables false
set_option linter.unusedSimpArgs false
set_option maxRecDepth 100000
set_option pp.deepTerms false
set_option pp.deepTerms.threshold 20
theorem rwGood_ev (a : Int) (h : Heap) : EF Tryd.prog O0 23 [.int .i64 a] h = some (.bool (wgood a), h) := by
  have : WPo (EF Tryd.prog O0 23 [.int .i64 a] h) fun q => q = (.bool (wgood a), h) := by
    rw [EF_body (O := O0) (by kernel_rfl) Tryd.func23 rfl (rs := [.tmp 2]) rfl (bad := []) (by kernel_rfl) _ _ (m := 9) rfl]
    simp (maxSteps := 1000000) (disch := first | decide | omega | (simp only [go_sem]; first | done | omega)) only [go_sem, Int.reduceToNat, Nat.reduceMul, Nat.reduceAdd, Nat.reduceSub, ↓EU_region, ↓EU_draw]
    repeat' (((repeat refine WPo_ob ?_); (first | refine WPo_cond (fun hb => ?_) (fun hb => ?_) | refine WPo_gard (fun hb => ?_) (fun hb => ?_) | refine WPo_gardT (fun hb => ?_) (fun hb => ?_)) <;> (try simp only [Bool.not_eq_true', Bool.not_eq_false'] at hb)) <;> (simp (maxSteps := 1000000) (disch := first | decide | omega | (simp only [go_sem]; first | done | omega)) only [go_sem, Int.reduceToNat, Nat.reduceMul, Nat.reduceAdd, Nat.reduceSub, ↓EU_region, ↓EU_draw, hb]))
    all_goals simp [wgood, *]
  obtain ⟨q, e, rfl⟩ := this
  exact e
/-- amid a round -/
noncomputable def bst (H0 B : Nat) (h0 : Heap) (i : Nat) (cu fr : Bool) (x : Item) (acc : List Flt) (q : Exit × St) : Prop :=
  ∃ tm h' u, q = (.normal, ⟨tm, h', []⟩) ∧ OW fltE 2 h' u acc ∧ Gr (.slice none 0 1) h0 u h' ∧ B < h'.next ∧ h'.get B = .cells (itemE x) 0 ∧ h0.next ≤ B ∧ ¬ blkOf u B ∧ Fr.get tm 1 = ptr H0 0 ∧ Fr.get tm 3 = u ∧ Fr.get tm 4 = .bool cu ∧ Fr.get tm 5 = .bool fr ∧ Fr.get tm 6 = .int .i64 i ∧ Fr.get tm 7 = ptr B 0
set_option maxHeartbeats 4000000 in
theorem bad_ev (cur : Int) (l : List Item) (s : Value) (h : Heap) (hs : SL itemE 3 h s l) (hl : l.length < 900000) :
    WPo (EF Tryd.prog O0 13 [formV cur s] h) fun q => OW fltE 2 q.2 q.1 (formF cur l) ∧ Fresh h.next q.1 ∧ Ext h q.2 := by
  rw [EF_body (O := O0) (by kernel_rfl) Tryd.func13 rfl (rs := [.tmp 2]) rfl (bad := []) (by kernel_rfl) _ _ (m := 125) rfl]
  obtain ⟨a, c, hv⟩ := hs.val
  subst hv
  unfold formV
  simp (maxSteps := 1000000) (disch := first | decide | omega | (simp only [go_sem]; first | done | omega)) only [go_sem, Int.reduceToNat, Nat.reduceMul, Nat.reduceAdd, Nat.reduceSub, ↓EU_region, ↓EU_draw]
  repeat refine WPo_ob ?_
  generalize hh0 : h.push (.cells [.int .i64 cur, .slice a l.length c] 0) = h0
  have x0 : Ext h h0 := by rw [← hh0]; exact (Ext.refl h).push _
  have hF0 : h0.get h.next = .cells [.int .i64 cur, .slice a l.length c] 0 := by rw [← hh0]; exact get_push_new _ _
  have hn0 : h0.next = h.next + 1 := by rw [← hh0]; exact next_push _ _
  clear hh0
  refine (LP_rule (fun m st => ∃ (i : Nat) (tm : Fr) (h2 : Heap) (u : Value) (acc : List Flt), st = ⟨tm, h2, []⟩ ∧ m = l.length - i ∧ i ≤ l.length ∧ Fr.get tm 1 = ptr h.next 0 ∧ Fr.get tm 3 = u ∧ Fr.get tm 4 = .bool (decide (cur = -1) || (l.take i).any (byId cur)) ∧ Fr.get tm 5 = .bool (decide ((l.length : Int) = 0) || (l.take i).any lagOk) ∧ Fr.get tm 6 = .int .i64 i ∧ OW fltE 2 h2 u acc ∧ Gr (.slice none 0 1) h0 u h2 ∧ acc.length ≤ 4 * i ∧ fGo none l = acc ++ fGo (prevAt l i) (l.drop i))
    (fun q => ∃ tm h2 u, q.2 = ⟨tm, h2, []⟩ ∧ q.1 = .exit 0 ∧ Fr.get tm 1 = ptr h.next 0 ∧ Fr.get tm 3 = u ∧ Fr.get tm 4 = .bool (decide (cur = -1) || l.any (byId cur)) ∧ Fr.get tm 5 = .bool (decide ((l.length : Int) = 0) || l.any lagOk) ∧ OW fltE 2 h2 u (fGo none l) ∧ Gr (.slice none 0 1) h0 u h2) ?_ l.length _ _ ?_ ?_).mono ?_
  · rintro m _ ⟨i, tm, h2, u, acc, rfl, rfl, hi, k1, k3, k4, k5, k6, hov, gr, hal, hgo⟩
    have hF : ∀ {u : Value} {h' : Heap}, Gr (.slice none 0 1) h0 u h' → h'.get h.next = .cells [.int .i64 cur, .slice a l.length c] 0 := fun g => (g.old _ (by omega) (nil_blk _ _ _)).trans hF0
    have hx' : ∀ {u : Value} {h' : Heap}, Gr (.slice none 0 1) h0 u h' → Ext h h' := fun g => x0.trans (g.ext0 (Ext.refl _) (Fresh.nil _ _ _))
    have o2 := hF gr
    have hn2 := gr.le
    obtain ⟨av, kv, rfl⟩ := hov.val
    simp (maxSteps := 1000000) (disch := first | decide | omega | (simp only [go_sem]; first | done | omega)) only [go_sem, Int.reduceToNat, Nat.reduceMul, Nat.reduceAdd, Nat.reduceSub, ↓EU_region, ↓EU_draw, k1, k6, o2]
    ((repeat refine WPo_ob ?_); (first | refine WPo_cond (fun b1 => ?_) (fun b1 => ?_) | refine WPo_gard (fun b1 => ?_) (fun b1 => ?_) | refine WPo_gardT (fun b1 => ?_) (fun b1 => ?_)) <;> (try simp only [Bool.not_eq_true', Bool.not_eq_false'] at b1))
    · have b1' := b1
      simp only [decide_eq_true_eq] at b1'
      have hi' : i < l.length := by omega
      obtain ⟨x, hx⟩ : ∃ x, l[i]? = some x := ⟨_, List.getElem?_eq_getElem hi'⟩
      obtain ⟨b, o, c', e, hb', hrd, hr⟩ := (hs.ext (hx' gr)).at hx rfl
      cases e
      simp (maxSteps := 1000000) (disch := first | decide | omega | (simp only [go_sem]; first | done | omega)) only [go_sem, Int.reduceToNat, Nat.reduceMul, Nat.reduceAdd, Nat.reduceSub, k1, k3, k4, k5, k6, o2, hrd]
      (first | rw [EU_region] | rw [EU_draw _ _ rfl]); simp (maxSteps := 1000000) (disch := first | decide | omega | (simp only [go_sem]; first | done | omega)) only [go_sem, Int.reduceToNat, Nat.reduceMul, Nat.reduceAdd, Nat.reduceSub, k1, k3, k4, k5, k6, o2, hrd]
      have hnx : h2.next < (h2.push (.cells (itemE x) 0)).next := by rw [next_push]; omega
      have hgx : (h2.push (.cells (itemE x) 0)).get h2.next = .cells (itemE x) 0 := get_push_new _ _
      have hgo2 : fGo none l = acc ++ (flts x.id (chks (prevAt l i) x) ++ fGo (some x) (l.drop (i + 1))) := by rw [hgo, drop_at hx]; rfl
      have hflt : flts x.id (chks (prevAt l i) x) = ((ifF (idBad x) ⟨1, x.id⟩ ++ ifF (ordBad (prevAt l i) x) ⟨2, x.id⟩) ++ ifF (!wgood x.w) ⟨3, x.id⟩) ++ ifF (lagBad x) ⟨4, x.id⟩ := by
        unfold flts chks
        cases idBad x <;> cases ordBad (prevAt l i) x <;> cases wgood x.w <;> cases lagBad x <;> rfl
      rw [hflt] at hgo2
      clear hflt hgo
      have hB := hnx
      have hX := hgx
      have h0B := hn2
      have hnb : ¬ blkOf (.slice av acc.length kv) h2.next := fun q => by have := hov.lt q; omega
      replace hov := hov.ext ((Ext.refl h2).push (.cells (itemE x) 0))
      replace gr := gr.push (.cells (itemE x) 0)
      generalize h2.push (.cells (itemE x) 0) = h' at *
      generalize h2.next = B at *
      have l1 := ifF_len (idBad x) ⟨1, x.id⟩
      have l2 := ifF_len (ordBad (prevAt l i) x) ⟨2, x.id⟩
      have l3 := ifF_len (!wgood x.w) ⟨3, x.id⟩
      have l4 := ifF_len (lagBad x) ⟨4, x.id⟩
      refine WPo_ob ?_
      refine WPo_ob ?_
      refine WPo_ob ?_
      refine WPo.mono (Q := bst h.next B h0 i (decide (cur = -1) || (l.take i).any (byId cur)) (decide ((l.length : Int) = 0) || (l.take i).any lagOk) x (acc ++ ifF (idBad x) ⟨1, x.id⟩)) ?_ ?_
      · cases d1 : decide (x.id < 0) with
        | true =>
          have hb : idBad x = true := by unfold idBad; rw [d1]; rfl
          rw [hb]
          simp (maxSteps := 1000000) (disch := first | decide | omega | (simp only [go_sem]; first | done | omega)) only [go_sem, Int.reduceToNat, Nat.reduceMul, Nat.reduceAdd, Nat.reduceSub, ↓EU_region, ↓EU_draw, k1, k3, k4, k5, k6, hX, d1]
          repeat refine WPo_ob ?_
          have hlit := OW.lit fltE_len h' [(⟨1, x.id⟩ : Flt)]
          rw [List.flatMap_cons, List.flatMap_nil, List.append_nil] at hlit
          unfold fltE at hlit
          refine append_gr (l := acc) (l' := [(⟨1, x.id⟩ : Flt)]) fc_ap_32_32 fltE_len (by decide) fltE_scal (hov.ext ((Ext.refl h').push _)) hlit.sl (by simp only [List.length_append, List.length_cons, List.length_nil]; omega) (by simp only [List.length_append, List.length_cons, List.length_nil]; omega) fun v' h5 hov5 gr5 => ?_
          simp (maxSteps := 1000000) (disch := first | decide | omega | (simp only [go_sem]; first | done | omega)) only [go_sem, Int.reduceToNat, Nat.reduceMul, Nat.reduceAdd, Nat.reduceSub, ↓EU_region, ↓EU_draw, k1, k3, k4, k5, k6, hX]
          exact ⟨_, _, _, rfl, by rw [ifF_t]; exact hov5, (gr.push _).trans gr5, by have := gr5.le; rw [next_push] at this; omega, by rw [gr5.old _ (by rw [next_push]; omega) hnb, get_push_old _ hB]; exact hX, h0B, (fun q => by rcases gr5.src _ q with q | q; exact hnb q; rw [next_push] at q; omega), by simp (maxSteps := 1000000) (disch := first | decide | omega | (simp only [go_sem]; first | done | omega)) only [go_sem, Int.reduceToNat, Nat.reduceMul, Nat.reduceAdd, Nat.reduceSub, ↓EU_region, ↓EU_draw, k1], by simp (maxSteps := 1000000) (disch := first | decide | omega | (simp only [go_sem]; first | done | omega)) only [go_sem, Int.reduceToNat, Nat.reduceMul, Nat.reduceAdd, Nat.reduceSub, ↓EU_region, ↓EU_draw], by simp (maxSteps := 1000000) (disch := first | decide | omega | (simp only [go_sem]; first | done | omega)) only [go_sem, Int.reduceToNat, Nat.reduceMul, Nat.reduceAdd, Nat.reduceSub, ↓EU_region, ↓EU_draw, k4], by simp (maxSteps := 1000000) (disch := first | decide | omega | (simp only [go_sem]; first | done | omega)) only [go_sem, Int.reduceToNat, Nat.reduceMul, Nat.reduceAdd, Nat.reduceSub, ↓EU_region, ↓EU_draw, k5], by simp (maxSteps := 1000000) (disch := first | decide | omega | (simp only [go_sem]; first | done | omega)) only [go_sem, Int.reduceToNat, Nat.reduceMul, Nat.reduceAdd, Nat.reduceSub, ↓EU_region, ↓EU_draw, k6], by simp (maxSteps := 1000000) (disch := first | decide | omega | (simp only [go_sem]; first | done | omega)) only [go_sem, Int.reduceToNat, Nat.reduceMul, Nat.reduceAdd, Nat.reduceSub, ↓EU_region, ↓EU_draw]⟩
        | false =>
          cases d2 : decide (1073741824 < x.id) with
          | true =>
            have hb : idBad x = true := by unfold idBad; rw [d1, d2]; rfl
            rw [hb]
            simp (maxSteps := 1000000) (disch := first | decide | omega | (simp only [go_sem]; first | done | omega)) only [go_sem, Int.reduceToNat, Nat.reduceMul, Nat.reduceAdd, Nat.reduceSub, ↓EU_region, ↓EU_draw, k1, k3, k4, k5, k6, hX, d1, d2]
            repeat refine WPo_ob ?_
            have hlit := OW.lit fltE_len h' [(⟨1, x.id⟩ : Flt)]
            rw [List.flatMap_cons, List.flatMap_nil, List.append_nil] at hlit
            unfold fltE at hlit
            refine append_gr (l := acc) (l' := [(⟨1, x.id⟩ : Flt)]) fc_ap_32_32 fltE_len (by decide) fltE_scal (hov.ext ((Ext.refl h').push _)) hlit.sl (by simp only [List.length_append, List.length_cons, List.length_nil]; omega) (by simp only [List.length_append, List.length_cons, List.length_nil]; omega) fun v' h5 hov5 gr5 => ?_
            simp (maxSteps := 1000000) (disch := first | decide | omega | (simp only [go_sem]; first | done | omega)) only [go_sem, Int.reduceToNat, Nat.reduceMul, Nat.reduceAdd, Nat.reduceSub, ↓EU_region, ↓EU_draw, k1, k3, k4, k5, k6, hX]
            exact ⟨_, _, _, rfl, by rw [ifF_t]; exact hov5, (gr.push _).trans gr5, by have := gr5.le; rw [next_push] at this; omega, by rw [gr5.old _ (by rw [next_push]; omega) hnb, get_push_old _ hB]; exact hX, h0B, (fun q => by rcases gr5.src _ q with q | q; exact hnb q; rw [next_push] at q; omega), by simp (maxSteps := 1000000) (disch := first | decide | omega | (simp only [go_sem]; first | done | omega)) only [go_sem, Int.reduceToNat, Nat.reduceMul, Nat.reduceAdd, Nat.reduceSub, ↓EU_region, ↓EU_draw, k1], by simp (maxSteps := 1000000) (disch := first | decide | omega | (simp only [go_sem]; first | done | omega)) only [go_sem, Int.reduceToNat, Nat.reduceMul, Nat.reduceAdd, Nat.reduceSub, ↓EU_region, ↓EU_draw], by simp (maxSteps := 1000000) (disch := first | decide | omega | (simp only [go_sem]; first | done | omega)) only [go_sem, Int.reduceToNat, Nat.reduceMul, Nat.reduceAdd, Nat.reduceSub, ↓EU_region, ↓EU_draw, k4], by simp (maxSteps := 1000000) (disch := first | decide | omega | (simp only [go_sem]; first | done | omega)) only [go_sem, Int.reduceToNat, Nat.reduceMul, Nat.reduceAdd, Nat.reduceSub, ↓EU_region, ↓EU_draw, k5], by simp (maxSteps := 1000000) (disch := first | decide | omega | (simp only [go_sem]; first | done | omega)) only [go_sem, Int.reduceToNat, Nat.reduceMul, Nat.reduceAdd, Nat.reduceSub, ↓EU_region, ↓EU_draw, k6], by simp (maxSteps := 1000000) (disch := first | decide | omega | (simp only [go_sem]; first | done | omega)) only [go_sem, Int.reduceToNat, Nat.reduceMul, Nat.reduceAdd, Nat.reduceSub, ↓EU_region, ↓EU_draw]⟩
          | false =>
            have hb : idBad x = false := by unfold idBad; rw [d1, d2]; rfl
            rw [hb]
            simp (maxSteps := 1000000) (disch := first | decide | omega | (simp only [go_sem]; first | done | omega)) only [go_sem, Int.reduceToNat, Nat.reduceMul, Nat.reduceAdd, Nat.reduceSub, ↓EU_region, ↓EU_draw, k1, k3, k4, k5, k6, hX, d1, d2]
            exact ⟨_, _, _, rfl, by rw [ifF_f, List.append_nil]; exact hov, gr, hB, hX, h0B, hnb, by simp (maxSteps := 1000000) (disch := first | decide | omega | (simp only [go_sem]; first | done | omega)) only [go_sem, Int.reduceToNat, Nat.reduceMul, Nat.reduceAdd, Nat.reduceSub, ↓EU_region, ↓EU_draw, k1], by simp (maxSteps := 1000000) (disch := first | decide | omega | (simp only [go_sem]; first | done | omega)) only [go_sem, Int.reduceToNat, Nat.reduceMul, Nat.reduceAdd, Nat.reduceSub, ↓EU_region, ↓EU_draw, k3], by simp (maxSteps := 1000000) (disch := first | decide | omega | (simp only [go_sem]; first | done | omega)) only [go_sem, Int.reduceToNat, Nat.reduceMul, Nat.reduceAdd, Nat.reduceSub, ↓EU_region, ↓EU_draw, k4], by simp (maxSteps := 1000000) (disch := first | decide | omega | (simp only [go_sem]; first | done | omega)) only [go_sem, Int.reduceToNat, Nat.reduceMul, Nat.reduceAdd, Nat.reduceSub, ↓EU_region, ↓EU_draw, k5], by simp (maxSteps := 1000000) (disch := first | decide | omega | (simp only [go_sem]; first | done | omega)) only [go_sem, Int.reduceToNat, Nat.reduceMul, Nat.reduceAdd, Nat.reduceSub, ↓EU_region, ↓EU_draw, k6], by simp (maxSteps := 1000000) (disch := first | decide | omega | (simp only [go_sem]; first | done | omega)) only [go_sem, Int.reduceToNat, Nat.reduceMul, Nat.reduceAdd, Nat.reduceSub, ↓EU_region, ↓EU_draw]⟩
      · generalize hA : acc ++ ifF (idBad x) ⟨1, x.id⟩ = A1
        have la : A1.length ≤ 4 * i + 1 := by rw [← hA, List.length_append]; omega
        clear k1 k3 k4 k5 k6 hov hX hB hnb gr
        rintro _ ⟨tm, h', u, rfl, hov, gr, hB, hX, h0B, hnb, k1, k3, k4, k5, k6, k7⟩
        have o2 := hF gr
        obtain ⟨av, kv, rfl⟩ := hov.val
        simp (maxSteps := 1000000) (disch := first | decide | omega | (simp only [go_sem]; first | done | omega)) only [go_sem, Int.reduceToNat, Nat.reduceMul, Nat.reduceAdd, Nat.reduceSub]
        refine WPo_ob ?_
        refine WPo.mono (Q := bst h.next B h0 i (decide (cur = -1) || (l.take i).any (byId cur)) (decide ((l.length : Int) = 0) || (l.take i).any lagOk) x (A1 ++ ifF (ordBad (prevAt l i) x) ⟨2, x.id⟩)) ?_ ?_
        · rcases Nat.eq_zero_or_pos i with q0 | q0
          · have hp : prevAt l i = none := by unfold prevAt; rw [if_pos q0]
            have dz : decide ((i : Int) > 0) = false := decide_eq_false (by omega)
            rw [hp]
            show WPo _ (bst h.next B h0 i (decide (cur = -1) || (l.take i).any (byId cur)) (decide ((l.length : Int) = 0) || (l.take i).any lagOk) x (A1 ++ ifF false ⟨2, x.id⟩))
            simp (maxSteps := 1000000) (disch := first | decide | omega | (simp only [go_sem]; first | done | omega)) only [go_sem, Int.reduceToNat, Nat.reduceMul, Nat.reduceAdd, Nat.reduceSub, ↓EU_region, ↓EU_draw, k1, k3, k4, k5, k6, k7, hX, o2, dz]
            exact ⟨_, _, _, rfl, by rw [ifF_f, List.append_nil]; exact hov, gr, hB, hX, h0B, hnb, by simp (maxSteps := 1000000) (disch := first | decide | omega | (simp only [go_sem]; first | done | omega)) only [go_sem, Int.reduceToNat, Nat.reduceMul, Nat.reduceAdd, Nat.reduceSub, ↓EU_region, ↓EU_draw, k1], by simp (maxSteps := 1000000) (disch := first | decide | omega | (simp only [go_sem]; first | done | omega)) only [go_sem, Int.reduceToNat, Nat.reduceMul, Nat.reduceAdd, Nat.reduceSub, ↓EU_region, ↓EU_draw, k3], by simp (maxSteps := 1000000) (disch := first | decide | omega | (simp only [go_sem]; first | done | omega)) only [go_sem, Int.reduceToNat, Nat.reduceMul, Nat.reduceAdd, Nat.reduceSub, ↓EU_region, ↓EU_draw, k4], by simp (maxSteps := 1000000) (disch := first | decide | omega | (simp only [go_sem]; first | done | omega)) only [go_sem, Int.reduceToNat, Nat.reduceMul, Nat.reduceAdd, Nat.reduceSub, ↓EU_region, ↓EU_draw, k5], by simp (maxSteps := 1000000) (disch := first | decide | omega | (simp only [go_sem]; first | done | omega)) only [go_sem, Int.reduceToNat, Nat.reduceMul, Nat.reduceAdd, Nat.reduceSub, ↓EU_region, ↓EU_draw, k6], by simp (maxSteps := 1000000) (disch := first | decide | omega | (simp only [go_sem]; first | done | omega)) only [go_sem, Int.reduceToNat, Nat.reduceMul, Nat.reduceAdd, Nat.reduceSub, ↓EU_region, ↓EU_draw, k7]⟩
          · obtain ⟨y, hy⟩ : ∃ y, l[i - 1]? = some y := ⟨_, List.getElem?_eq_getElem (by omega)⟩
            obtain ⟨_, _, _, e, _, _, hq⟩ := (hs.ext (hx' gr)).at hy rfl
            cases e
            have hq0 := hq 0 _ rfl
            rw [add_z] at hq0
            have hp : prevAt l i = some y := by unfold prevAt; rw [if_neg (by omega), hy]
            have dz : decide ((i : Int) > 0) = true := decide_eq_true (by omega)
            have hw1 : wrapF .i64 ((i : Int) - 1) = ((i - 1 : Nat) : Int) := by rw [wrap64 (by omega)]; omega
            rw [hp]
            cases d : decide (x.id ≤ y.id) with
            | true =>
              have hb : ordBad (some y) x = true := d
              rw [hb]
              simp (maxSteps := 1000000) (disch := first | decide | omega | (simp only [go_sem]; first | done | omega)) only [go_sem, Int.reduceToNat, Nat.reduceMul, Nat.reduceAdd, Nat.reduceSub, ↓EU_region, ↓EU_draw, k1, k3, k4, k5, k6, k7, hX, o2, dz, hw1, hq0, d]
              repeat refine WPo_ob ?_
              have hlit := OW.lit fltE_len h' [(⟨2, x.id⟩ : Flt)]
              rw [List.flatMap_cons, List.flatMap_nil, List.append_nil] at hlit
              unfold fltE at hlit
              refine append_gr (l := A1) (l' := [(⟨2, x.id⟩ : Flt)]) fc_ap_32_32 fltE_len (by decide) fltE_scal (hov.ext ((Ext.refl h').push _)) hlit.sl (by simp only [List.length_append, List.length_cons, List.length_nil]; omega) (by simp only [List.length_append, List.length_cons, List.length_nil]; omega) fun v' h5 hov5 gr5 => ?_
              simp (maxSteps := 1000000) (disch := first | decide | omega | (simp only [go_sem]; first | done | omega)) only [go_sem, Int.reduceToNat, Nat.reduceMul, Nat.reduceAdd, Nat.reduceSub, ↓EU_region, ↓EU_draw, k1, k3, k4, k5, k6, k7, hX]
              exact ⟨_, _, _, rfl, by rw [ifF_t]; exact hov5, (gr.push _).trans gr5, by have := gr5.le; rw [next_push] at this; omega, by rw [gr5.old _ (by rw [next_push]; omega) hnb, get_push_old _ hB]; exact hX, h0B, (fun q => by rcases gr5.src _ q with q | q; exact hnb q; rw [next_push] at q; omega), by simp (maxSteps := 1000000) (disch := first | decide | omega | (simp only [go_sem]; first | done | omega)) only [go_sem, Int.reduceToNat, Nat.reduceMul, Nat.reduceAdd, Nat.reduceSub, ↓EU_region, ↓EU_draw, k1], by simp (maxSteps := 1000000) (disch := first | decide | omega | (simp only [go_sem]; first | done | omega)) only [go_sem, Int.reduceToNat, Nat.reduceMul, Nat.reduceAdd, Nat.reduceSub, ↓EU_region, ↓EU_draw], by simp (maxSteps := 1000000) (disch := first | decide | omega | (simp only [go_sem]; first | done | omega)) only [go_sem, Int.reduceToNat, Nat.reduceMul, Nat.reduceAdd, Nat.reduceSub, ↓EU_region, ↓EU_draw, k4], by simp (maxSteps := 1000000) (disch := first | decide | omega | (simp only [go_sem]; first | done | omega)) only [go_sem, Int.reduceToNat, Nat.reduceMul, Nat.reduceAdd, Nat.reduceSub, ↓EU_region, ↓EU_draw, k5], by simp (maxSteps := 1000000) (disch := first | decide | omega | (simp only [go_sem]; first | done | omega)) only [go_sem, Int.reduceToNat, Nat.reduceMul, Nat.reduceAdd, Nat.reduceSub, ↓EU_region, ↓EU_draw, k6], by simp (maxSteps := 1000000) (disch := first | decide | omega | (simp only [go_sem]; first | done | omega)) only [go_sem, Int.reduceToNat, Nat.reduceMul, Nat.reduceAdd, Nat.reduceSub, ↓EU_region, ↓EU_draw, k7]⟩
            | false =>
              have hb : ordBad (some y) x = false := d
              rw [hb]
              simp (maxSteps := 1000000) (disch := first | decide | omega | (simp only [go_sem]; first | done | omega)) only [go_sem, Int.reduceToNat, Nat.reduceMul, Nat.reduceAdd, Nat.reduceSub, ↓EU_region, ↓EU_draw, k1, k3, k4, k5, k6, k7, hX, o2, dz, hw1, hq0, d]
              exact ⟨_, _, _, rfl, by rw [ifF_f, List.append_nil]; exact hov, gr, hB, hX, h0B, hnb, by simp (maxSteps := 1000000) (disch := first | decide | omega | (simp only [go_sem]; first | done | omega)) only [go_sem, Int.reduceToNat, Nat.reduceMul, Nat.reduceAdd, Nat.reduceSub, ↓EU_region, ↓EU_draw, k1], by simp (maxSteps := 1000000) (disch := first | decide | omega | (simp only [go_sem]; first | done | omega)) only [go_sem, Int.reduceToNat, Nat.reduceMul, Nat.reduceAdd, Nat.reduceSub, ↓EU_region, ↓EU_draw, k3], by simp (maxSteps := 1000000) (disch := first | decide | omega | (simp only [go_sem]; first | done | omega)) only [go_sem, Int.reduceToNat, Nat.reduceMul, Nat.reduceAdd, Nat.reduceSub, ↓EU_region, ↓EU_draw, k4], by simp (maxSteps := 1000000) (disch := first | decide | omega | (simp only [go_sem]; first | done | omega)) only [go_sem, Int.reduceToNat, Nat.reduceMul, Nat.reduceAdd, Nat.reduceSub, ↓EU_region, ↓EU_draw, k5], by simp (maxSteps := 1000000) (disch := first | decide | omega | (simp only [go_sem]; first | done | omega)) only [go_sem, Int.reduceToNat, Nat.reduceMul, Nat.reduceAdd, Nat.reduceSub, ↓EU_region, ↓EU_draw, k6], by simp (maxSteps := 1000000) (disch := first | decide | omega | (simp only [go_sem]; first | done | omega)) only [go_sem, Int.reduceToNat, Nat.reduceMul, Nat.reduceAdd, Nat.reduceSub, ↓EU_region, ↓EU_draw, k7]⟩
        · generalize hA2 : A1 ++ ifF (ordBad (prevAt l i) x) ⟨2, x.id⟩ = A2
          have la2 : A2.length ≤ 4 * i + 2 := by rw [← hA2, List.length_append]; omega
          clear k1 k3 k4 k5 k6 k7 hov hX hB hnb gr o2 h0B
          rintro _ ⟨tm, h', u, rfl, hov, gr, hB, hX, h0B, hnb, k1, k3, k4, k5, k6, k7⟩
          have o2 := hF gr
          obtain ⟨av, kv, rfl⟩ := hov.val
          simp (maxSteps := 1000000) (disch := first | decide | omega | (simp only [go_sem]; first | done | omega)) only [go_sem, Int.reduceToNat, Nat.reduceMul, Nat.reduceAdd, Nat.reduceSub]
          refine WPo_ob ?_
          refine WPo.mono (Q := bst h.next B h0 i (decide (cur = -1) || (l.take i).any (byId cur)) (decide ((l.length : Int) = 0) || (l.take i).any lagOk) x (A2 ++ ifF (!wgood x.w) ⟨3, x.id⟩)) ?_ ?_
          · cases d : wgood x.w with
            | true =>
              simp (maxSteps := 1000000) (disch := first | decide | omega | (simp only [go_sem]; first | done | omega)) only [go_sem, Int.reduceToNat, Nat.reduceMul, Nat.reduceAdd, Nat.reduceSub, ↓EU_region, ↓EU_draw, k1, k3, k4, k5, k6, k7, hX, o2, rwGood_ev, d]
              exact ⟨_, _, _, rfl, by rw [ifF_f, List.append_nil]; exact hov, gr, hB, hX, h0B, hnb, by simp (maxSteps := 1000000) (disch := first | decide | omega | (simp only [go_sem]; first | done | omega)) only [go_sem, Int.reduceToNat, Nat.reduceMul, Nat.reduceAdd, Nat.reduceSub, ↓EU_region, ↓EU_draw, k1], by simp (maxSteps := 1000000) (disch := first | decide | omega | (simp only [go_sem]; first | done | omega)) only [go_sem, Int.reduceToNat, Nat.reduceMul, Nat.reduceAdd, Nat.reduceSub, ↓EU_region, ↓EU_draw, k3], by simp (maxSteps := 1000000) (disch := first | decide | omega | (simp only [go_sem]; first | done | omega)) only [go_sem, Int.reduceToNat, Nat.reduceMul, Nat.reduceAdd, Nat.reduceSub, ↓EU_region, ↓EU_draw, k4], by simp (maxSteps := 1000000) (disch := first | decide | omega | (simp only [go_sem]; first | done | omega)) only [go_sem, Int.reduceToNat, Nat.reduceMul, Nat.reduceAdd, Nat.reduceSub, ↓EU_region, ↓EU_draw, k5], by simp (maxSteps := 1000000) (disch := first | decide | omega | (simp only [go_sem]; first | done | omega)) only [go_sem, Int.reduceToNat, Nat.reduceMul, Nat.reduceAdd, Nat.reduceSub, ↓EU_region, ↓EU_draw, k6], by simp (maxSteps := 1000000) (disch := first | decide | omega | (simp only [go_sem]; first | done | omega)) only [go_sem, Int.reduceToNat, Nat.reduceMul, Nat.reduceAdd, Nat.reduceSub, ↓EU_region, ↓EU_draw, k7]⟩
            | false =>
              simp (maxSteps := 1000000) (disch := first | decide | omega | (simp only [go_sem]; first | done | omega)) only [go_sem, Int.reduceToNat, Nat.reduceMul, Nat.reduceAdd, Nat.reduceSub, ↓EU_region, ↓EU_draw, k1, k3, k4, k5, k6, k7, hX, o2, rwGood_ev, d]
              repeat refine WPo_ob ?_
              have hlit := OW.lit fltE_len h' [(⟨3, x.id⟩ : Flt)]
              rw [List.flatMap_cons, List.flatMap_nil, List.append_nil] at hlit
              unfold fltE at hlit
              refine append_gr (l := A2) (l' := [(⟨3, x.id⟩ : Flt)]) fc_ap_32_32 fltE_len (by decide) fltE_scal (hov.ext ((Ext.refl h').push _)) hlit.sl (by simp only [List.length_append, List.length_cons, List.length_nil]; omega) (by simp only [List.length_append, List.length_cons, List.length_nil]; omega) fun v' h5 hov5 gr5 => ?_
              simp (maxSteps := 1000000) (disch := first | decide | omega | (simp only [go_sem]; first | done | omega)) only [go_sem, Int.reduceToNat, Nat.reduceMul, Nat.reduceAdd, Nat.reduceSub, ↓EU_region, ↓EU_draw, k1, k3, k4, k5, k6, k7, hX]
              exact ⟨_, _, _, rfl, by rw [ifF_t]; exact hov5, (gr.push _).trans gr5, by have := gr5.le; rw [next_push] at this; omega, by rw [gr5.old _ (by rw [next_push]; omega) hnb, get_push_old _ hB]; exact hX, h0B, (fun q => by rcases gr5.src _ q with q | q; exact hnb q; rw [next_push] at q; omega), by simp (maxSteps := 1000000) (disch := first | decide | omega | (simp only [go_sem]; first | done | omega)) only [go_sem, Int.reduceToNat, Nat.reduceMul, Nat.reduceAdd, Nat.reduceSub, ↓EU_region, ↓EU_draw, k1], by simp (maxSteps := 1000000) (disch := first | decide | omega | (simp only [go_sem]; first | done | omega)) only [go_sem, Int.reduceToNat, Nat.reduceMul, Nat.reduceAdd, Nat.reduceSub, ↓EU_region, ↓EU_draw], by simp (maxSteps := 1000000) (disch := first | decide | omega | (simp only [go_sem]; first | done | omega)) only [go_sem, Int.reduceToNat, Nat.reduceMul, Nat.reduceAdd, Nat.reduceSub, ↓EU_region, ↓EU_draw, k4], by simp (maxSteps := 1000000) (disch := first | decide | omega | (simp only [go_sem]; first | done | omega)) only [go_sem, Int.reduceToNat, Nat.reduceMul, Nat.reduceAdd, Nat.reduceSub, ↓EU_region, ↓EU_draw, k5], by simp (maxSteps := 1000000) (disch := first | decide | omega | (simp only [go_sem]; first | done | omega)) only [go_sem, Int.reduceToNat, Nat.reduceMul, Nat.reduceAdd, Nat.reduceSub, ↓EU_region, ↓EU_draw, k6], by simp (maxSteps := 1000000) (disch := first | decide | omega | (simp only [go_sem]; first | done | omega)) only [go_sem, Int.reduceToNat, Nat.reduceMul, Nat.reduceAdd, Nat.reduceSub, ↓EU_region, ↓EU_draw, k7]⟩
          · generalize hA3 : A2 ++ ifF (!wgood x.w) ⟨3, x.id⟩ = A3
            have la3 : A3.length ≤ 4 * i + 3 := by rw [← hA3, List.length_append]; omega
            clear k1 k3 k4 k5 k6 k7 hov hX hB hnb gr o2 h0B
            rintro _ ⟨tm, h', u, rfl, hov, gr, hB, hX, h0B, hnb, k1, k3, k4, k5, k6, k7⟩
            have o2 := hF gr
            obtain ⟨av, kv, rfl⟩ := hov.val
            simp (maxSteps := 1000000) (disch := first | decide | omega | (simp only [go_sem]; first | done | omega)) only [go_sem, Int.reduceToNat, Nat.reduceMul, Nat.reduceAdd, Nat.reduceSub]
            refine WPo_ob ?_
            refine WPo.mono (Q := bst h.next B h0 i (decide (cur = -1) || (l.take i).any (byId cur)) (decide ((l.length : Int) = 0) || (l.take i).any lagOk) x (A3 ++ ifF (lagBad x) ⟨4, x.id⟩)) ?_ ?_
            · cases d1 : decide (x.lag < -1125899906842624) with
              | true =>
                have hb : lagBad x = true := by unfold lagBad; rw [d1]; rfl
                rw [hb]
                simp (maxSteps := 1000000) (disch := first | decide | omega | (simp only [go_sem]; first | done | omega)) only [go_sem, Int.reduceToNat, Nat.reduceMul, Nat.reduceAdd, Nat.reduceSub, ↓EU_region, ↓EU_draw, k1, k3, k4, k5, k6, k7, hX, o2, d1]
                repeat refine WPo_ob ?_
                have hlit := OW.lit fltE_len h' [(⟨4, x.id⟩ : Flt)]
                rw [List.flatMap_cons, List.flatMap_nil, List.append_nil] at hlit
                unfold fltE at hlit
                refine append_gr (l := A3) (l' := [(⟨4, x.id⟩ : Flt)]) fc_ap_32_32 fltE_len (by decide) fltE_scal (hov.ext ((Ext.refl h').push _)) hlit.sl (by simp only [List.length_append, List.length_cons, List.length_nil]; omega) (by simp only [List.length_append, List.length_cons, List.length_nil]; omega) fun v' h5 hov5 gr5 => ?_
                simp (maxSteps := 1000000) (disch := first | decide | omega | (simp only [go_sem]; first | done | omega)) only [go_sem, Int.reduceToNat, Nat.reduceMul, Nat.reduceAdd, Nat.reduceSub, ↓EU_region, ↓EU_draw, k1, k3, k4, k5, k6, k7, hX]
                exact ⟨_, _, _, rfl, by rw [ifF_t]; exact hov5, (gr.push _).trans gr5, by have := gr5.le; rw [next_push] at this; omega, by rw [gr5.old _ (by rw [next_push]; omega) hnb, get_push_old _ hB]; exact hX, h0B, (fun q => by rcases gr5.src _ q with q | q; exact hnb q; rw [next_push] at q; omega), by simp (maxSteps := 1000000) (disch := first | decide | omega | (simp only [go_sem]; first | done | omega)) only [go_sem, Int.reduceToNat, Nat.reduceMul, Nat.reduceAdd, Nat.reduceSub, ↓EU_region, ↓EU_draw, k1], by simp (maxSteps := 1000000) (disch := first | decide | omega | (simp only [go_sem]; first | done | omega)) only [go_sem, Int.reduceToNat, Nat.reduceMul, Nat.reduceAdd, Nat.reduceSub, ↓EU_region, ↓EU_draw], by simp (maxSteps := 1000000) (disch := first | decide | omega | (simp only [go_sem]; first | done | omega)) only [go_sem, Int.reduceToNat, Nat.reduceMul, Nat.reduceAdd, Nat.reduceSub, ↓EU_region, ↓EU_draw, k4], by simp (maxSteps := 1000000) (disch := first | decide | omega | (simp only [go_sem]; first | done | omega)) only [go_sem, Int.reduceToNat, Nat.reduceMul, Nat.reduceAdd, Nat.reduceSub, ↓EU_region, ↓EU_draw, k5], by simp (maxSteps := 1000000) (disch := first | decide | omega | (simp only [go_sem]; first | done | omega)) only [go_sem, Int.reduceToNat, Nat.reduceMul, Nat.reduceAdd, Nat.reduceSub, ↓EU_region, ↓EU_draw, k6], by simp (maxSteps := 1000000) (disch := first | decide | omega | (simp only [go_sem]; first | done | omega)) only [go_sem, Int.reduceToNat, Nat.reduceMul, Nat.reduceAdd, Nat.reduceSub, ↓EU_region, ↓EU_draw, k7]⟩
              | false =>
                cases d2 : decide (1125899906842624 < x.lag) with
                | true =>
                  have hb : lagBad x = true := by unfold lagBad; rw [d1, d2]; rfl
                  rw [hb]
                  simp (maxSteps := 1000000) (disch := first | decide | omega | (simp only [go_sem]; first | done | omega)) only [go_sem, Int.reduceToNat, Nat.reduceMul, Nat.reduceAdd, Nat.reduceSub, ↓EU_region, ↓EU_draw, k1, k3, k4, k5, k6, k7, hX, o2, d1, d2]
                  repeat refine WPo_ob ?_
                  have hlit := OW.lit fltE_len h' [(⟨4, x.id⟩ : Flt)]
                  rw [List.flatMap_cons, List.flatMap_nil, List.append_nil] at hlit
                  unfold fltE at hlit
                  refine append_gr (l := A3) (l' := [(⟨4, x.id⟩ : Flt)]) fc_ap_32_32 fltE_len (by decide) fltE_scal (hov.ext ((Ext.refl h').push _)) hlit.sl (by simp only [List.length_append, List.length_cons, List.length_nil]; omega) (by simp only [List.length_append, List.length_cons, List.length_nil]; omega) fun v' h5 hov5 gr5 => ?_
                  simp (maxSteps := 1000000) (disch := first | decide | omega | (simp only [go_sem]; first | done | omega)) only [go_sem, Int.reduceToNat, Nat.reduceMul, Nat.reduceAdd, Nat.reduceSub, ↓EU_region, ↓EU_draw, k1, k3, k4, k5, k6, k7, hX]
                  exact ⟨_, _, _, rfl, by rw [ifF_t]; exact hov5, (gr.push _).trans gr5, by have := gr5.le; rw [next_push] at this; omega, by rw [gr5.old _ (by rw [next_push]; omega) hnb, get_push_old _ hB]; exact hX, h0B, (fun q => by rcases gr5.src _ q with q | q; exact hnb q; rw [next_push] at q; omega), by simp (maxSteps := 1000000) (disch := first | decide | omega | (simp only [go_sem]; first | done | omega)) only [go_sem, Int.reduceToNat, Nat.reduceMul, Nat.reduceAdd, Nat.reduceSub, ↓EU_region, ↓EU_draw, k1], by simp (maxSteps := 1000000) (disch := first | decide | omega | (simp only [go_sem]; first | done | omega)) only [go_sem, Int.reduceToNat, Nat.reduceMul, Nat.reduceAdd, Nat.reduceSub, ↓EU_region, ↓EU_draw], by simp (maxSteps := 1000000) (disch := first | decide | omega | (simp only [go_sem]; first | done | omega)) only [go_sem, Int.reduceToNat, Nat.reduceMul, Nat.reduceAdd, Nat.reduceSub, ↓EU_region, ↓EU_draw, k4], by simp (maxSteps := 1000000) (disch := first | decide | omega | (simp only [go_sem]; first | done | omega)) only [go_sem, Int.reduceToNat, Nat.reduceMul, Nat.reduceAdd, Nat.reduceSub, ↓EU_region, ↓EU_draw, k5], by simp (maxSteps := 1000000) (disch := first | decide | omega | (simp only [go_sem]; first | done | omega)) only [go_sem, Int.reduceToNat, Nat.reduceMul, Nat.reduceAdd, Nat.reduceSub, ↓EU_region, ↓EU_draw, k6], by simp (maxSteps := 1000000) (disch := first | decide | omega | (simp only [go_sem]; first | done | omega)) only [go_sem, Int.reduceToNat, Nat.reduceMul, Nat.reduceAdd, Nat.reduceSub, ↓EU_region, ↓EU_draw, k7]⟩
                | false =>
                  have hb : lagBad x = false := by unfold lagBad; rw [d1, d2]; rfl
                  rw [hb]
                  simp (maxSteps := 1000000) (disch := first | decide | omega | (simp only [go_sem]; first | done | omega)) only [go_sem, Int.reduceToNat, Nat.reduceMul, Nat.reduceAdd, Nat.reduceSub, ↓EU_region, ↓EU_draw, k1, k3, k4, k5, k6, k7, hX, o2, d1, d2]
                  exact ⟨_, _, _, rfl, by rw [ifF_f, List.append_nil]; exact hov, gr, hB, hX, h0B, hnb, by simp (maxSteps := 1000000) (disch := first | decide | omega | (simp only [go_sem]; first | done | omega)) only [go_sem, Int.reduceToNat, Nat.reduceMul, Nat.reduceAdd, Nat.reduceSub, ↓EU_region, ↓EU_draw, k1], by simp (maxSteps := 1000000) (disch := first | decide | omega | (simp only [go_sem]; first | done | omega)) only [go_sem, Int.reduceToNat, Nat.reduceMul, Nat.reduceAdd, Nat.reduceSub, ↓EU_region, ↓EU_draw, k3], by simp (maxSteps := 1000000) (disch := first | decide | omega | (simp only [go_sem]; first | done | omega)) only [go_sem, Int.reduceToNat, Nat.reduceMul, Nat.reduceAdd, Nat.reduceSub, ↓EU_region, ↓EU_draw, k4], by simp (maxSteps := 1000000) (disch := first | decide | omega | (simp only [go_sem]; first | done | omega)) only [go_sem, Int.reduceToNat, Nat.reduceMul, Nat.reduceAdd, Nat.reduceSub, ↓EU_region, ↓EU_draw, k5], by simp (maxSteps := 1000000) (disch := first | decide | omega | (simp only [go_sem]; first | done | omega)) only [go_sem, Int.reduceToNat, Nat.reduceMul, Nat.reduceAdd, Nat.reduceSub, ↓EU_region, ↓EU_draw, k6], by simp (maxSteps := 1000000) (disch := first | decide | omega | (simp only [go_sem]; first | done | omega)) only [go_sem, Int.reduceToNat, Nat.reduceMul, Nat.reduceAdd, Nat.reduceSub, ↓EU_region, ↓EU_draw, k7]⟩
            · generalize hA4 : A3 ++ ifF (lagBad x) ⟨4, x.id⟩ = A4
              have la4 : A4.length ≤ 4 * i + 4 := by rw [← hA4, List.length_append]; omega
              clear k1 k3 k4 k5 k6 k7 hov hX hB hnb gr o2 h0B
              rintro _ ⟨tm, h', u, rfl, hov, gr, hB, hX, h0B, hnb, k1, k3, k4, k5, k6, k7⟩
              have o2 := hF gr
              obtain ⟨av, kv, rfl⟩ := hov.val
              have hgo4 : fGo none l = A4 ++ fGo (prevAt l (i + 1)) (l.drop (i + 1)) := by
                have hp1 : prevAt l (i + 1) = some x := by unfold prevAt; rw [if_neg (by omega), Nat.add_sub_cancel, hx]
                rw [hp1, hgo2, ← hA4, ← hA3, ← hA2, ← hA]
                simp only [List.append_assoc]
              have hwi : wrapF .i64 ((i : Int) + 1) = ((i + 1 : Nat) : Int) := by rw [wrap64 (by omega)]; omega
              have t1 : (decide (cur = -1) || (l.take (i + 1)).any (byId cur)) = ((decide (cur = -1) || (l.take i).any (byId cur)) || decide (x.id = cur)) := by rw [take_any _ hx, ← Bool.or_assoc]; rfl
              have t2 : (decide ((l.length : Int) = 0) || (l.take (i + 1)).any lagOk) = ((decide ((l.length : Int) = 0) || (l.take i).any lagOk) || decide (x.lag ≥ 0)) := by rw [take_any _ hx, ← Bool.or_assoc]; rfl
              generalize (decide (cur = -1) || (l.take i).any (byId cur)) = cu at *
              generalize (decide ((l.length : Int) = 0) || (l.take i).any lagOk) = fr at *
              cases cu <;> cases fr
              all_goals
                simp (maxSteps := 1000000) (disch := first | decide | omega | (simp only [go_sem]; first | done | omega)) only [go_sem, Int.reduceToNat, Nat.reduceMul, Nat.reduceAdd, Nat.reduceSub, ↓EU_region, ↓EU_draw, k1, k3, k4, k5, k6, k7, hX, o2, hwi]
                exact ⟨_, by omega, i + 1, _, _, _, A4, rfl, rfl, by omega, by simp (maxSteps := 1000000) (disch := first | decide | omega | (simp only [go_sem]; first | done | omega)) only [go_sem, Int.reduceToNat, Nat.reduceMul, Nat.reduceAdd, Nat.reduceSub, ↓EU_region, ↓EU_draw, k1], by simp (maxSteps := 1000000) (disch := first | decide | omega | (simp only [go_sem]; first | done | omega)) only [go_sem, Int.reduceToNat, Nat.reduceMul, Nat.reduceAdd, Nat.reduceSub, ↓EU_region, ↓EU_draw, k3], by simp (maxSteps := 1000000) (disch := first | decide | omega | (simp only [go_sem]; first | done | omega)) only [go_sem, Int.reduceToNat, Nat.reduceMul, Nat.reduceAdd, Nat.reduceSub, ↓EU_region, ↓EU_draw]; rw [t1]; rfl, by simp (maxSteps := 1000000) (disch := first | decide | omega | (simp only [go_sem]; first | done | omega)) only [go_sem, Int.reduceToNat, Nat.reduceMul, Nat.reduceAdd, Nat.reduceSub, ↓EU_region, ↓EU_draw]; rw [t2]; rfl, by simp (maxSteps := 1000000) (disch := first | decide | omega | (simp only [go_sem]; first | done | omega)) only [go_sem, Int.reduceToNat, Nat.reduceMul, Nat.reduceAdd, Nat.reduceSub, ↓EU_region, ↓EU_draw], hov, gr, by omega, hgo4⟩
    · simp only [decide_eq_false_iff_not] at b1
      have : i = l.length := by omega
      subst this
      rw [List.take_length] at k4 k5
      have he : fGo none l = acc := by
        rw [hgo, List.drop_length]
        cases prevAt l l.length <;> simp [fGo]
      subst he
      simp (maxSteps := 1000000) (disch := first | decide | omega | (simp only [go_sem]; first | done | omega)) only [go_sem, Int.reduceToNat, Nat.reduceMul, Nat.reduceAdd, Nat.reduceSub, ↓EU_region, ↓EU_draw]
      exact ⟨_, _, _, rfl, trivial, by simp (maxSteps := 1000000) (disch := first | decide | omega | (simp only [go_sem]; first | done | omega)) only [go_sem, Int.reduceToNat, Nat.reduceMul, Nat.reduceAdd, Nat.reduceSub, ↓EU_region, ↓EU_draw, k1], by simp (maxSteps := 1000000) (disch := first | decide | omega | (simp only [go_sem]; first | done | omega)) only [go_sem, Int.reduceToNat, Nat.reduceMul, Nat.reduceAdd, Nat.reduceSub, ↓EU_region, ↓EU_draw, k3], by simp (maxSteps := 1000000) (disch := first | decide | omega | (simp only [go_sem]; first | done | omega)) only [go_sem, Int.reduceToNat, Nat.reduceMul, Nat.reduceAdd, Nat.reduceSub, ↓EU_region, ↓EU_draw, k4], by simp (maxSteps := 1000000) (disch := first | decide | omega | (simp only [go_sem]; first | done | omega)) only [go_sem, Int.reduceToNat, Nat.reduceMul, Nat.reduceAdd, Nat.reduceSub, ↓EU_region, ↓EU_draw, k5], hov, gr⟩
  · exact ⟨0, _, _, _, [], rfl, rfl, by omega, by simp (maxSteps := 1000000) (disch := first | decide | omega | (simp only [go_sem]; first | done | omega)) only [go_sem, Int.reduceToNat, Nat.reduceMul, Nat.reduceAdd, Nat.reduceSub, ↓EU_region, ↓EU_draw], by simp (maxSteps := 1000000) (disch := first | decide | omega | (simp only [go_sem]; first | done | omega)) only [go_sem, Int.reduceToNat, Nat.reduceMul, Nat.reduceAdd, Nat.reduceSub, ↓EU_region, ↓EU_draw], by simp (maxSteps := 1000000) (disch := first | decide | omega | (simp only [go_sem]; first | done | omega)) only [go_sem, Int.reduceToNat, Nat.reduceMul, Nat.reduceAdd, Nat.reduceSub, ↓EU_region, ↓EU_draw, hF0]; simp, by simp (maxSteps := 1000000) (disch := first | decide | omega | (simp only [go_sem]; first | done | omega)) only [go_sem, Int.reduceToNat, Nat.reduceMul, Nat.reduceAdd, Nat.reduceSub, ↓EU_region, ↓EU_draw, hF0]; simp, by simp (maxSteps := 1000000) (disch := first | decide | omega | (simp only [go_sem]; first | done | omega)) only [go_sem, Int.reduceToNat, Nat.reduceMul, Nat.reduceAdd, Nat.reduceSub, ↓EU_region, ↓EU_draw]; rfl, OW.nil, Gr.refl _ _, by simp, rfl⟩
  · omega
  · rintro ⟨q, _⟩ ⟨tm, h2, u, rfl, rfl, g1, g3, g4, g5, hov, gr⟩
    have hF : ∀ {u : Value} {h' : Heap}, Gr (.slice none 0 1) h0 u h' → h'.get h.next = .cells [.int .i64 cur, .slice a l.length c] 0 := fun g => (g.old _ (by omega) (nil_blk _ _ _)).trans hF0
    have hgl := fGo_len none l
    have o2 := hF gr
    obtain ⟨av, kv, rfl⟩ := hov.val
    simp (maxSteps := 1000000) (disch := first | decide | omega | (simp only [go_sem]; first | done | omega)) only [go_sem, Int.reduceToNat, Nat.reduceMul, Nat.reduceAdd, Nat.reduceSub, ↓EU_region, ↓EU_draw, g1, g3, g4, g5, o2]
    repeat refine WPo_ob ?_
    refine WPo.mono (Q := fun q => ∃ tm' h3 u3, q = (.normal, ⟨tm', h3, []⟩) ∧ OW fltE 2 h3 u3 (fGo none l ++ ifF (decide (64 < (l.length : Int))) ⟨5, l.length⟩) ∧ Gr (.slice none 0 1) h0 u3 h3 ∧ Fr.get tm' 1 = ptr h.next 0 ∧ Fr.get tm' 3 = u3 ∧ Fr.get tm' 4 = .bool (decide (cur = -1) || l.any (byId cur)) ∧ Fr.get tm' 5 = .bool (decide ((l.length : Int) = 0) || l.any lagOk)) ?_ ?_
    · ((repeat refine WPo_ob ?_); (first | refine WPo_cond (fun b1 => ?_) (fun b1 => ?_) | refine WPo_gard (fun b1 => ?_) (fun b1 => ?_) | refine WPo_gardT (fun b1 => ?_) (fun b1 => ?_)) <;> (try simp only [Bool.not_eq_true', Bool.not_eq_false'] at b1))
      · simp (maxSteps := 1000000) (disch := first | decide | omega | (simp only [go_sem]; first | done | omega)) only [go_sem, Int.reduceToNat, Nat.reduceMul, Nat.reduceAdd, Nat.reduceSub, ↓EU_region, ↓EU_draw, b1, g1, g3, g4, g5, o2]
        rw [ifF_t]
        repeat refine WPo_ob ?_
        have hlit := OW.lit fltE_len h2 [(⟨5, l.length⟩ : Flt)]
        rw [List.flatMap_cons, List.flatMap_nil, List.append_nil] at hlit
        unfold fltE at hlit
        refine append_gr (l := fGo none l) (l' := [(⟨5, l.length⟩ : Flt)]) fc_ap_32_32 fltE_len (by decide) fltE_scal (hov.ext ((Ext.refl h2).push _)) hlit.sl (by simp only [List.length_append, List.length_cons, List.length_nil]; omega) (by simp only [List.length_append, List.length_cons, List.length_nil]; omega) fun v' h5 hov5 gr5 => ?_
        simp (maxSteps := 1000000) (disch := first | decide | omega | (simp only [go_sem]; first | done | omega)) only [go_sem, Int.reduceToNat, Nat.reduceMul, Nat.reduceAdd, Nat.reduceSub, ↓EU_region, ↓EU_draw, b1, g1, g3, g4, g5]
        exact ⟨_, _, _, rfl, hov5, (gr.push _).trans gr5, by simp (maxSteps := 1000000) (disch := first | decide | omega | (simp only [go_sem]; first | done | omega)) only [go_sem, Int.reduceToNat, Nat.reduceMul, Nat.reduceAdd, Nat.reduceSub, ↓EU_region, ↓EU_draw, g1], by simp (maxSteps := 1000000) (disch := first | decide | omega | (simp only [go_sem]; first | done | omega)) only [go_sem, Int.reduceToNat, Nat.reduceMul, Nat.reduceAdd, Nat.reduceSub, ↓EU_region, ↓EU_draw], by simp (maxSteps := 1000000) (disch := first | decide | omega | (simp only [go_sem]; first | done | omega)) only [go_sem, Int.reduceToNat, Nat.reduceMul, Nat.reduceAdd, Nat.reduceSub, ↓EU_region, ↓EU_draw, g4], by simp (maxSteps := 1000000) (disch := first | decide | omega | (simp only [go_sem]; first | done | omega)) only [go_sem, Int.reduceToNat, Nat.reduceMul, Nat.reduceAdd, Nat.reduceSub, ↓EU_region, ↓EU_draw, g5]⟩
      · simp (maxSteps := 1000000) (disch := first | decide | omega | (simp only [go_sem]; first | done | omega)) only [go_sem, Int.reduceToNat, Nat.reduceMul, Nat.reduceAdd, Nat.reduceSub, ↓EU_region, ↓EU_draw, b1]
        rw [ifF_f]
        exact ⟨_, _, _, rfl, by rw [List.append_nil]; exact hov, gr, by simp (maxSteps := 1000000) (disch := first | decide | omega | (simp only [go_sem]; first | done | omega)) only [go_sem, Int.reduceToNat, Nat.reduceMul, Nat.reduceAdd, Nat.reduceSub, ↓EU_region, ↓EU_draw, g1], by simp (maxSteps := 1000000) (disch := first | decide | omega | (simp only [go_sem]; first | done | omega)) only [go_sem, Int.reduceToNat, Nat.reduceMul, Nat.reduceAdd, Nat.reduceSub, ↓EU_region, ↓EU_draw, g3], by simp (maxSteps := 1000000) (disch := first | decide | omega | (simp only [go_sem]; first | done | omega)) only [go_sem, Int.reduceToNat, Nat.reduceMul, Nat.reduceAdd, Nat.reduceSub, ↓EU_region, ↓EU_draw, g4], by simp (maxSteps := 1000000) (disch := first | decide | omega | (simp only [go_sem]; first | done | omega)) only [go_sem, Int.reduceToNat, Nat.reduceMul, Nat.reduceAdd, Nat.reduceSub, ↓EU_region, ↓EU_draw, g5]⟩
    · clear g1 g3 g4 g5 o2
      have hl5 := ifF_len (decide (64 < (l.length : Int))) ⟨5, l.length⟩
      generalize hA : fGo none l ++ ifF (decide (64 < (l.length : Int))) ⟨5, l.length⟩ = A5
      have hA5 : A5.length ≤ 4 * l.length + 1 := by rw [← hA, List.length_append]; omega
      rintro _ ⟨tm', h3, u3, rfl, hov3, gr3, g1, g3, g4, g5⟩
      have o3 := hF gr3
      obtain ⟨av3, kv3, rfl⟩ := hov3.val
      have e6 : (!l.any (byId cur) && !decide (cur = -1)) = !(decide (cur = -1) || l.any (byId cur)) := by cases l.any (byId cur) <;> cases decide (cur = -1) <;> rfl
      have e7 : (decide ((l.length : Int) > 0) && l.all neg) = !(decide ((l.length : Int) = 0) || l.any lagOk) := by
        have h1 : l.all neg = !l.any lagOk := by
          rw [List.all_eq_not_any_not]
          congr 2
          funext x
          unfold neg lagOk
          by_cases h : x.lag < 0 <;> simp [h] <;> omega
        have h2 : decide ((l.length : Int) > 0) = !decide ((l.length : Int) = 0) := by
          by_cases h : l.length = 0
          · rw [decide_eq_false (by omega : ¬ (l.length : Int) > 0), decide_eq_true (by omega : (l.length : Int) = 0)]; rfl
          · rw [decide_eq_true (by omega : (l.length : Int) > 0), decide_eq_false (by omega : ¬ (l.length : Int) = 0)]; rfl
        rw [h1, h2]
        cases decide ((l.length : Int) = 0) <;> cases l.any lagOk <;> rfl
      have hfin : formF cur l = (A5 ++ ifF (!(decide (cur = -1) || l.any (byId cur))) ⟨6, cur⟩) ++ ifF (!(decide ((l.length : Int) = 0) || l.any lagOk)) ⟨7, -1⟩ := by rw [← hA, ← e6, ← e7]; rfl
      rw [hfin]
      clear hfin e6 e7 hA
      generalize (decide (cur = -1) || l.any (byId cur)) = cu at *
      generalize (decide ((l.length : Int) = 0) || l.any lagOk) = fr at *
      simp (maxSteps := 1000000) (disch := first | decide | omega | (simp only [go_sem]; first | done | omega)) only [go_sem, Int.reduceToNat, Nat.reduceMul, Nat.reduceAdd, Nat.reduceSub, ↓EU_region, ↓EU_draw, g1, g3, g4]
      refine WPo_ob ?_
      refine WPo.mono (Q := fun q => ∃ tm' h5 u5, q = (.normal, ⟨tm', h5, []⟩) ∧ OW fltE 2 h5 u5 (A5 ++ ifF (!cu) ⟨6, cur⟩) ∧ Gr (.slice none 0 1) h0 u5 h5 ∧ Fr.get tm' 3 = u5 ∧ Fr.get tm' 5 = .bool fr) ?_ ?_
      · cases cu with
        | true =>
          simp (maxSteps := 1000000) (disch := first | decide | omega | (simp only [go_sem]; first | done | omega)) only [go_sem, Int.reduceToNat, Nat.reduceMul, Nat.reduceAdd, Nat.reduceSub, ↓EU_region, ↓EU_draw, g1, g3, g4, g5, o3]
          exact ⟨_, _, _, rfl, by rw [ifF_f, List.append_nil]; exact hov3, gr3, by simp (maxSteps := 1000000) (disch := first | decide | omega | (simp only [go_sem]; first | done | omega)) only [go_sem, Int.reduceToNat, Nat.reduceMul, Nat.reduceAdd, Nat.reduceSub, ↓EU_region, ↓EU_draw, g3], by simp (maxSteps := 1000000) (disch := first | decide | omega | (simp only [go_sem]; first | done | omega)) only [go_sem, Int.reduceToNat, Nat.reduceMul, Nat.reduceAdd, Nat.reduceSub, ↓EU_region, ↓EU_draw, g5]⟩
        | false =>
          simp (maxSteps := 1000000) (disch := first | decide | omega | (simp only [go_sem]; first | done | omega)) only [go_sem, Int.reduceToNat, Nat.reduceMul, Nat.reduceAdd, Nat.reduceSub, ↓EU_region, ↓EU_draw, g1, g3, g4, g5, o3]
          repeat refine WPo_ob ?_
          have hlit := OW.lit fltE_len h3 [(⟨6, cur⟩ : Flt)]
          rw [List.flatMap_cons, List.flatMap_nil, List.append_nil] at hlit
          unfold fltE at hlit
          refine append_gr (l := A5) (l' := [(⟨6, cur⟩ : Flt)]) fc_ap_32_32 fltE_len (by decide) fltE_scal (hov3.ext ((Ext.refl h3).push _)) hlit.sl (by simp only [List.length_append, List.length_cons, List.length_nil]; omega) (by simp only [List.length_append, List.length_cons, List.length_nil]; omega) fun v' h5 hov5 gr5 => ?_
          simp (maxSteps := 1000000) (disch := first | decide | omega | (simp only [go_sem]; first | done | omega)) only [go_sem, Int.reduceToNat, Nat.reduceMul, Nat.reduceAdd, Nat.reduceSub, ↓EU_region, ↓EU_draw, g1, g3, g4, g5]
          exact ⟨_, _, _, rfl, by rw [ifF_t]; exact hov5, (gr3.push _).trans gr5, by simp (maxSteps := 1000000) (disch := first | decide | omega | (simp only [go_sem]; first | done | omega)) only [go_sem, Int.reduceToNat, Nat.reduceMul, Nat.reduceAdd, Nat.reduceSub, ↓EU_region, ↓EU_draw], by simp (maxSteps := 1000000) (disch := first | decide | omega | (simp only [go_sem]; first | done | omega)) only [go_sem, Int.reduceToNat, Nat.reduceMul, Nat.reduceAdd, Nat.reduceSub, ↓EU_region, ↓EU_draw, g5]⟩
      · clear g1 g3 g4 g5 o3
        have hl6 := ifF_len (!cu) ⟨6, cur⟩
        generalize hB : A5 ++ ifF (!cu) ⟨6, cur⟩ = A6
        have hA6 : A6.length ≤ 4 * l.length + 2 := by rw [← hB, List.length_append]; omega
        rintro _ ⟨tm5, h6, u6, rfl, hov6, gr6, g3, g5⟩
        obtain ⟨av6, kv6, rfl⟩ := hov6.val
        cases fr with
        | false =>
          simp (maxSteps := 1000000) (disch := first | decide | omega | (simp only [go_sem]; first | done | omega)) only [go_sem, Int.reduceToNat, Nat.reduceMul, Nat.reduceAdd, Nat.reduceSub, ↓EU_region, ↓EU_draw, g3, g5]
          rw [ifF_t]
          repeat refine WPo_ob ?_
          have hlit := OW.lit fltE_len h6 [(⟨7, -1⟩ : Flt)]
          rw [List.flatMap_cons, List.flatMap_nil, List.append_nil] at hlit
          unfold fltE at hlit
          refine append_gr (l := A6) (l' := [(⟨7, -1⟩ : Flt)]) fc_ap_32_32 fltE_len (by decide) fltE_scal (hov6.ext ((Ext.refl h6).push _)) hlit.sl (by simp only [List.length_append, List.length_cons, List.length_nil]; omega) (by simp only [List.length_append, List.length_cons, List.length_nil]; omega) fun v' h5 hov5 gr5 => ?_
          have grf := (gr6.push (.cells [.int .i64 7, .int .i64 (-1)] 2)).trans gr5
          obtain ⟨av7, kv7, rfl⟩ := hov5.val
          simp (maxSteps := 1000000) (disch := first | decide | omega | (simp only [go_sem]; first | done | omega)) only [go_sem, Int.reduceToNat, Nat.reduceMul, Nat.reduceAdd, Nat.reduceSub, ↓EU_region, ↓EU_draw]
          exact ⟨hov5, by have := Fresh.gr grf (nil_blk _ _); rw [hn0] at this; exact this.mono (by omega), x0.trans (grf.ext0 (Ext.refl _) (Fresh.nil _ _ _))⟩
        | true =>
          simp (maxSteps := 1000000) (disch := first | decide | omega | (simp only [go_sem]; first | done | omega)) only [go_sem, Int.reduceToNat, Nat.reduceMul, Nat.reduceAdd, Nat.reduceSub, ↓EU_region, ↓EU_draw, g3, g5]
          rw [ifF_f, List.append_nil]
          exact ⟨hov6, by have := Fresh.gr gr6 (nil_blk _ _); rw [hn0] at this; exact this.mono (by omega), x0.trans (gr6.ext0 (Ext.refl _) (Fresh.nil _ _ _))⟩
end Go.Proofs.YtggidmjgadlolaaDoor.EV
