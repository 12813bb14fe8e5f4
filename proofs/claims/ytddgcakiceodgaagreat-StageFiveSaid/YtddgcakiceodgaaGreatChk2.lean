/- Contract: check.Faults. No condition. -/
import Derived.Test.YtddgcakiceodgaaGreatChk1
namespace Go.Proofs.YtddgcakiceodgaaGreat.EV
open Go Go.Proofs
set_option linter.unusedVariables false
set_option linter.unusedSimpArgs false
set_option maxRecDepth 100000
set_option pp.deepTerms false
set_option pp.deepTerms.threshold 20
noncomputable def wantF (l : List Item) (x : Item) : List Flt := if l.any (byId x.id) then ifF (!decide ((fndR x.id l).w = x.w)) ⟨10, x.id⟩ ++ ifF (!decide ((fndR x.id l).lag = x.lag)) ⟨11, x.id⟩ else [⟨8, x.id⟩]
noncomputable def gotF (m : List Item) (x : Item) : List Flt := ifF (!m.any (byId x.id)) ⟨9, x.id⟩
noncomputable def diffF (c1 : Int) (l : List Item) (c2 : Int) (m : List Item) : List Flt := (m.flatMap (wantF l) ++ l.flatMap (gotF m)) ++ ifF (!decide (c1 = c2)) ⟨12, c1⟩
noncomputable def faultsF (c1 : Int) (l : List Item) (c2 : Int) (m : List Item) : List Flt := if decide (((formF c1 l).length : Int) > 0) then formF c1 l else diffF c1 l c2 m
theorem wantF_len (l : List Item) (x : Item) : (wantF l x).length ≤ 2 := by
  have h1 := ifF_len (!decide ((fndR x.id l).w = x.w)) ⟨10, x.id⟩
  have h2 := ifF_len (!decide ((fndR x.id l).lag = x.lag)) ⟨11, x.id⟩
  unfold wantF
  split
  · rw [List.length_append]; omega
  · simp
theorem flat_len {α β : Type} (f : α → List β) (k : Nat) (hf : ∀ x, (f x).length ≤ k) : ∀ l : List α, (l.flatMap f).length ≤ k * l.length
  | [] => Nat.zero_le _
  | x :: l => by
    have := flat_len f k hf l
    have h1 := hf x
    rw [List.flatMap_cons, List.length_append, List.length_cons, Nat.mul_add]
    omega
theorem take_flat {α β : Type} (f : α → List β) {l : List α} {i : Nat} {x : α} (h : l[i]? = some x) : (l.take (i + 1)).flatMap f = (l.take i).flatMap f ++ f x := by
  rw [List.take_add_one, h, List.flatMap_append]
  simp
theorem clip_cut {α : Type} {e : α → List Value} {es : Nat} {h : Heap} {P : Program} {t : TypeId} {v : Value} {l : List α} (ht : slT P t = some es) (hs : OW e es h v l) (k k' : IntKind) :
    ∃ u, CUT P h t v none (some (.int k (l.length : Int))) (some (.int k' (l.length : Int))) = some (u, h) ∧ OW e es h u l ∧ ∀ i, blkOf u i → blkOf v i := by
  cases hs with
  | nil =>
    rw [CUT_nil, ht, ob_s]
    exact ⟨.slice none 0 1, rfl, .nil, fun i hi => hi⟩
  | mk b o c l cs hb hc hcap hl hx =>
    have hce : cutEnds l.length (c / 2) none (some (.int k (l.length : Int))) (some (.int k' (l.length : Int))) = some (0, l.length, l.length, true) := by
      unfold cutEnds
      simp only [natOf_nat, ble_nat hcap, cnd_true, ble_nat (Nat.le_refl l.length)]
    rw [CUT_sl, ht, ob_s, hce, ob_s]
    unfold evCutSl
    dsimp only
    rw [Bool.true_or, cnd_true, Nat.zero_mul, Nat.add_zero, Nat.sub_zero]
    have hle : l.length * es ≤ c / 2 * es := Nat.mul_le_mul_right _ hcap
    refine ⟨_, rfl, ?_, fun i hi => by simpa [blkOf] using hi⟩
    rw [show cnd (Nat.beq l.length 0) o o = o by cases Nat.beq l.length 0 <;> rfl]
    exact .mk b o _ l cs hb hc (by omega) (by rw [show (2 * l.length + 1) / 2 = l.length by omega]; omega) hx
theorem clip_ev (l : List Flt) (s : Value) (h : Heap) (hs : OW fltE 2 h s l) (hl : l.length < 9000000) :
    WPo (EF Tryz.prog O0 86 [s] h) fun q => q.2 = h ∧ OW fltE 2 h q.1 l ∧ ∀ i, blkOf q.1 i → blkOf s i := by
  rw [EF_body (O := O0) (by kernel_rfl) Tryz.func86 rfl (rs := [.tmp 2]) rfl (bad := []) (by kernel_rfl) _ _ (m := 9) rfl]
  obtain ⟨u, hu, hou, hbu⟩ := clip_cut fc_sl_122 hs .i64 .i64
  obtain ⟨av, kv, rfl⟩ := hs.val
  simp (maxSteps := 1000000) (disch := first | decide | omega | (simp only [go_sem]; first | done | omega)) only [go_sem, Int.reduceToNat, Nat.reduceMul, Nat.reduceAdd, Nat.reduceSub, ↓EU_region, ↓EU_draw, hu]
  obtain ⟨au, ku, rfl⟩ := hou.val
  exact ⟨trivial, hou, hbu⟩
set_option maxHeartbeats 1000000 in
theorem faults_ev (c1 c2 : Int) (l m : List Item) (s t : Value) (h : Heap) (hs : SL itemE 3 h s l) (ht : SL itemE 3 h t m) (hl : l.length < 900000) (hm : m.length < 900000) :
    WPo (EF Tryz.prog O0 77 [formV c1 s, formV c2 t] h) fun q => OW fltE 2 q.2 q.1 (faultsF c1 l c2 m) ∧ Fresh h.next q.1 ∧ Ext h q.2 := by
  rw [EF_body (O := O0) (by kernel_rfl) Tryz.func77 rfl (rs := [.tmp 4]) rfl (bad := []) (by kernel_rfl) _ _ (m := 101) rfl]
  obtain ⟨a, c, hv⟩ := hs.val
  subst hv
  obtain ⟨a2, k2, hv⟩ := ht.val
  subst hv
  unfold formV
  have x0 : Ext h ((h.push (.cells [.int .i64 c1, .slice a l.length c] 0)).push (.cells [.int .i64 c2, .slice a2 m.length k2] 0)) := ((Ext.refl h).push _).push _
  have hfm := form_ev c1 l _ _ (hs.ext x0) hl
  unfold formV at hfm
  simp (maxSteps := 1000000) (disch := first | decide | omega | (simp only [go_sem]; first | done | omega)) only [go_sem, Int.reduceToNat, Nat.reduceMul, Nat.reduceAdd, Nat.reduceSub, ↓EU_region, ↓EU_draw]
  repeat refine WPo_ob ?_
  refine hfm.mono ?_
  rintro ⟨u0, h1⟩ ⟨ho0, hf0, x1⟩
  simp only [next_push] at ho0 hf0 x1
  have hn1 := x1.le
  simp only [next_push] at hn1
  have hA1 : h1.get h.next = .cells [.int .i64 c1, .slice a l.length c] 0 := by simp (maxSteps := 1000000) (disch := first | decide | omega | (simp only [go_sem]; first | done | omega)) only [go_sem, Int.reduceToNat, Nat.reduceMul, Nat.reduceAdd, Nat.reduceSub, ↓EU_region, ↓EU_draw, x1.old]
  have hB1 : h1.get (h.next + 1) = .cells [.int .i64 c2, .slice a2 m.length k2] 0 := by simp (maxSteps := 1000000) (disch := first | decide | omega | (simp only [go_sem]; first | done | omega)) only [go_sem, Int.reduceToNat, Nat.reduceMul, Nat.reduceAdd, Nat.reduceSub, ↓EU_region, ↓EU_draw, x1.old]
  have y1 : Ext h h1 := x0.trans x1
  have hfl := formF_len c1 l
  unfold faultsF
  generalize hdf : diffF c1 l c2 m = df
  generalize formF c1 l = F0 at *
  clear hfm x1 x0
  obtain ⟨av, kv, rfl⟩ := ho0.val
  simp (maxSteps := 1000000) (disch := first | decide | omega | (simp only [go_sem]; first | done | omega)) only [go_sem, Int.reduceToNat, Nat.reduceMul, Nat.reduceAdd, Nat.reduceSub, ↓EU_region, ↓EU_draw]
  ((repeat refine WPo_ob ?_); (first | refine WPo_cond (fun b1 => ?_) (fun b1 => ?_) | refine WPo_gard (fun b1 => ?_) (fun b1 => ?_) | refine WPo_gardT (fun b1 => ?_) (fun b1 => ?_)) <;> (try simp only [Bool.not_eq_true', Bool.not_eq_false'] at b1))
  · simp (maxSteps := 1000000) (disch := first | decide | omega | (simp only [go_sem]; first | done | omega)) only [go_sem, Int.reduceToNat, Nat.reduceMul, Nat.reduceAdd, Nat.reduceSub, ↓EU_region, ↓EU_draw, b1]
    rw [if_pos trivial]
    exact ⟨ho0, hf0.mono (by omega), y1⟩
  · have b1' := b1
    simp only [decide_eq_false_iff_not] at b1'
    have : F0 = [] := List.length_eq_zero_iff.1 (by omega)
    subst this
    rw [if_neg (by simp)]
    clear b1 b1' hfl
    have hls0 : ∀ h', Ext h h' → SL itemE 3 h' (.slice a l.length c) l := fun h' x => hs.ext x
    simp (maxSteps := 1000000) (disch := first | decide | omega | (simp only [go_sem]; first | done | omega)) only [go_sem, Int.reduceToNat, Nat.reduceMul, Nat.reduceAdd, Nat.reduceSub, ↓EU_region, ↓EU_draw, hB1]
    repeat refine WPo_ob ?_
    refine (LP_rule (fun n st => ∃ (i : Nat) (tm : Fr) (h2 : Heap) (u : Value) (acc : List Flt), st = ⟨tm, h2, []⟩ ∧ n = m.length - i ∧ i ≤ m.length ∧ Fr.get tm 2 = ptr h.next 0 ∧ Fr.get tm 3 = ptr (h.next + 1) 0 ∧ Fr.get tm 5 = u ∧ Fr.get tm 21 = .slice a2 m.length k2 ∧ Fr.get tm 22 = .int .i64 m.length ∧ Fr.get tm 23 = .int .i64 i ∧ OW fltE 2 h2 u acc ∧ acc = (m.take i).flatMap (wantF l) ∧ Gr (.slice av 0 kv) h1 u h2)
      (fun q => ∃ tm h2 u, q.2 = ⟨tm, h2, []⟩ ∧ q.1 = .exit 0 ∧ Fr.get tm 2 = ptr h.next 0 ∧ Fr.get tm 3 = ptr (h.next + 1) 0 ∧ Fr.get tm 5 = u ∧ OW fltE 2 h2 u (m.flatMap (wantF l)) ∧ Gr (.slice av 0 kv) h1 u h2) ?_ m.length _ _ ?_ ?_).mono ?_
    · rintro n _ ⟨i, tm, h2, u, acc, rfl, rfl, hi, g2, g3, g5, g21, g22, g23, hov, hacc, gr⟩
      have x2 : Ext h h2 := ⟨Nat.le_trans y1.le gr.le, fun j hj => (gr.old j (Nat.lt_of_lt_of_le hj y1.le) (fun q => by have := hf0 j q; omega)).trans (y1.old j hj)⟩
      have hA : h2.get h.next = .cells [.int .i64 c1, .slice a l.length c] 0 := (gr.old _ (by omega) (fun q => by have := hf0 _ q; omega)).trans hA1
      have hn2 := gr.le
      have hal : acc.length ≤ 2 * i := by
        have := flat_len (wantF l) 2 (wantF_len l) (m.take i)
        rw [List.length_take] at this
        rw [hacc]; omega
      obtain ⟨au, ku, rfl⟩ := hov.val
      simp (maxSteps := 1000000) (disch := first | decide | omega | (simp only [go_sem]; first | done | omega)) only [go_sem, Int.reduceToNat, Nat.reduceMul, Nat.reduceAdd, Nat.reduceSub, ↓EU_region, ↓EU_draw, g2, g3, g5, g21, g22, g23]
      ((repeat refine WPo_ob ?_); (first | refine WPo_cond (fun b1 => ?_) (fun b1 => ?_) | refine WPo_gard (fun b1 => ?_) (fun b1 => ?_) | refine WPo_gardT (fun b1 => ?_) (fun b1 => ?_)) <;> (try simp only [Bool.not_eq_true', Bool.not_eq_false'] at b1))
      · have b1' := b1
        simp only [decide_eq_true_eq] at b1'
        have hi' : i < m.length := by omega
        obtain ⟨x, hx⟩ : ∃ x, m[i]? = some x := ⟨_, List.getElem?_eq_getElem hi'⟩
        obtain ⟨b, o, c', e, hb', hrd, hr⟩ := (ht.ext x2).at hx rfl
        cases e
        have hwi : wrapF .i64 ((i : Int) + 1) = ((i + 1 : Nat) : Int) := by rw [wrap64 (by omega)]; omega
        have htk := take_flat (wantF l) hx
        have hfd := ofind_ev c1 l (.slice a l.length c) x.id (h2.push (.cells (itemE x) 0)) (hls0 _ (x2.push _)) hl
        unfold formV at hfd
        simp (maxSteps := 1000000) (disch := first | decide | omega | (simp only [go_sem]; first | done | omega)) only [go_sem, Int.reduceToNat, Nat.reduceMul, Nat.reduceAdd, Nat.reduceSub, ↓EU_region, ↓EU_draw, g2, g3, g5, g21, g22, g23, hrd, hA]
        repeat refine WPo_ob ?_
        refine hfd.bind fun h3 x3 => ?_
        have hn3 := x3.le
        rw [next_push] at hn3
        have hX3 : h3.get h2.next = .cells (itemE x) 0 := (x3.old _ (by rw [next_push]; omega)).trans (get_push_new _ _)
        have y3 : Ext h2 h3 := ((Ext.refl h2).push _).trans x3
        have hov3 := (hov.ext y3).ext ((Ext.refl h3).push (.cells (itemE (fndR x.id l)) 0))
        have gr3 := (gr.ext y3).push (.cells (itemE (fndR x.id l)) 0)
        have hX3p : (h3.push (.cells (itemE (fndR x.id l)) 0)).get h2.next = .cells (itemE x) 0 := by rw [get_push_old _ (by omega)]; exact hX3
        have hY3p : (h3.push (.cells (itemE (fndR x.id l)) 0)).get h3.next = .cells (itemE (fndR x.id l)) 0 := get_push_new _ _
        have hnp : h3.next < (h3.push (.cells (itemE (fndR x.id l)) 0)).next := by rw [next_push]; omega
        generalize hyy : fndR x.id l = y at *
        generalize hhp : h3.push (.cells (itemE y) 0) = hp at *
        cases hq : l.any (byId x.id) with
        | false =>
          have hw : wantF l x = [⟨8, x.id⟩] := by unfold wantF; rw [hq]; rfl
          simp (maxSteps := 1000000) (disch := first | decide | omega | (simp only [go_sem]; first | done | omega)) only [go_sem, Int.reduceToNat, Nat.reduceMul, Nat.reduceAdd, Nat.reduceSub, ↓EU_region, ↓EU_draw, g2, g3, g5, g21, g22, g23, hhp, hX3p, hY3p]
          repeat refine WPo_ob ?_
          have hlit := OW.lit fltE_len hp [(⟨8, x.id⟩ : Flt)]
          rw [List.flatMap_cons, List.flatMap_nil, List.append_nil] at hlit
          unfold fltE at hlit
          refine append_gr (l := acc) (l' := [(⟨8, x.id⟩ : Flt)]) fc_ap_122_122 fltE_len (by decide) fltE_scal (hov3.ext ((Ext.refl hp).push _)) hlit.sl (by simp only [List.length_append, List.length_cons, List.length_nil]; omega) (by simp only [List.length_append, List.length_cons, List.length_nil]; omega) fun v' h5 hov5 gr5 => ?_
          simp (maxSteps := 1000000) (disch := first | decide | omega | (simp only [go_sem]; first | done | omega)) only [go_sem, Int.reduceToNat, Nat.reduceMul, Nat.reduceAdd, Nat.reduceSub, ↓EU_region, ↓EU_draw, g2, g3, g5, g21, g22, g23, hwi]
          exact ⟨_, by omega, i + 1, _, _, _, _, rfl, rfl, by omega, by simp (maxSteps := 1000000) (disch := first | decide | omega | (simp only [go_sem]; first | done | omega)) only [go_sem, Int.reduceToNat, Nat.reduceMul, Nat.reduceAdd, Nat.reduceSub, ↓EU_region, ↓EU_draw, g2], by simp (maxSteps := 1000000) (disch := first | decide | omega | (simp only [go_sem]; first | done | omega)) only [go_sem, Int.reduceToNat, Nat.reduceMul, Nat.reduceAdd, Nat.reduceSub, ↓EU_region, ↓EU_draw, g3], by simp (maxSteps := 1000000) (disch := first | decide | omega | (simp only [go_sem]; first | done | omega)) only [go_sem, Int.reduceToNat, Nat.reduceMul, Nat.reduceAdd, Nat.reduceSub, ↓EU_region, ↓EU_draw], by simp (maxSteps := 1000000) (disch := first | decide | omega | (simp only [go_sem]; first | done | omega)) only [go_sem, Int.reduceToNat, Nat.reduceMul, Nat.reduceAdd, Nat.reduceSub, ↓EU_region, ↓EU_draw, g21], by simp (maxSteps := 1000000) (disch := first | decide | omega | (simp only [go_sem]; first | done | omega)) only [go_sem, Int.reduceToNat, Nat.reduceMul, Nat.reduceAdd, Nat.reduceSub, ↓EU_region, ↓EU_draw, g22], by simp (maxSteps := 1000000) (disch := first | decide | omega | (simp only [go_sem]; first | done | omega)) only [go_sem, Int.reduceToNat, Nat.reduceMul, Nat.reduceAdd, Nat.reduceSub, ↓EU_region, ↓EU_draw], hov5, by rw [htk, hw, hacc], (gr3.push _).trans gr5⟩
        | true =>
          have hw : wantF l x = ifF (!decide (y.w = x.w)) ⟨10, x.id⟩ ++ ifF (!decide (y.lag = x.lag)) ⟨11, x.id⟩ := by unfold wantF; rw [hq, if_pos rfl, hyy]
          simp (maxSteps := 1000000) (disch := first | decide | omega | (simp only [go_sem]; first | done | omega)) only [go_sem, Int.reduceToNat, Nat.reduceMul, Nat.reduceAdd, Nat.reduceSub, ↓EU_region, ↓EU_draw, g2, g3, g5, g21, g22, g23, hhp, hX3p, hY3p]
          refine WPo_ob ?_
          refine WPo.mono (Q := fun q => ∃ tm' h5 u5, q = (.normal, ⟨tm', h5, []⟩) ∧ OW fltE 2 h5 u5 (acc ++ ifF (!decide (y.w = x.w)) ⟨10, x.id⟩) ∧ Gr (.slice av 0 kv) h1 u5 h5 ∧ h5.get h2.next = .cells (itemE x) 0 ∧ h5.get h3.next = .cells (itemE y) 0 ∧ Fr.get tm' 2 = ptr h.next 0 ∧ Fr.get tm' 3 = ptr (h.next + 1) 0 ∧ Fr.get tm' 5 = u5 ∧ Fr.get tm' 7 = ptr h2.next 0 ∧ Fr.get tm' 8 = ptr h3.next 0 ∧ Fr.get tm' 21 = .slice (some ⟨b, o, none⟩) m.length k2 ∧ Fr.get tm' 22 = .int .i64 m.length ∧ Fr.get tm' 23 = .int .i64 i) ?_ ?_
          · cases hd : decide (y.w = x.w) with
            | true =>
              simp (maxSteps := 1000000) (disch := first | decide | omega | (simp only [go_sem]; first | done | omega)) only [go_sem, Int.reduceToNat, Nat.reduceMul, Nat.reduceAdd, Nat.reduceSub, ↓EU_region, ↓EU_draw]
              rw [ifF_f, List.append_nil]
              exact ⟨_, _, _, rfl, hov3, gr3, hX3p, hY3p, by simp (maxSteps := 1000000) (disch := first | decide | omega | (simp only [go_sem]; first | done | omega)) only [go_sem, Int.reduceToNat, Nat.reduceMul, Nat.reduceAdd, Nat.reduceSub, ↓EU_region, ↓EU_draw, g2], by simp (maxSteps := 1000000) (disch := first | decide | omega | (simp only [go_sem]; first | done | omega)) only [go_sem, Int.reduceToNat, Nat.reduceMul, Nat.reduceAdd, Nat.reduceSub, ↓EU_region, ↓EU_draw, g3], by simp (maxSteps := 1000000) (disch := first | decide | omega | (simp only [go_sem]; first | done | omega)) only [go_sem, Int.reduceToNat, Nat.reduceMul, Nat.reduceAdd, Nat.reduceSub, ↓EU_region, ↓EU_draw, g5], by simp (maxSteps := 1000000) (disch := first | decide | omega | (simp only [go_sem]; first | done | omega)) only [go_sem, Int.reduceToNat, Nat.reduceMul, Nat.reduceAdd, Nat.reduceSub, ↓EU_region, ↓EU_draw], by simp (maxSteps := 1000000) (disch := first | decide | omega | (simp only [go_sem]; first | done | omega)) only [go_sem, Int.reduceToNat, Nat.reduceMul, Nat.reduceAdd, Nat.reduceSub, ↓EU_region, ↓EU_draw], by simp (maxSteps := 1000000) (disch := first | decide | omega | (simp only [go_sem]; first | done | omega)) only [go_sem, Int.reduceToNat, Nat.reduceMul, Nat.reduceAdd, Nat.reduceSub, ↓EU_region, ↓EU_draw, g21], by simp (maxSteps := 1000000) (disch := first | decide | omega | (simp only [go_sem]; first | done | omega)) only [go_sem, Int.reduceToNat, Nat.reduceMul, Nat.reduceAdd, Nat.reduceSub, ↓EU_region, ↓EU_draw, g22], by simp (maxSteps := 1000000) (disch := first | decide | omega | (simp only [go_sem]; first | done | omega)) only [go_sem, Int.reduceToNat, Nat.reduceMul, Nat.reduceAdd, Nat.reduceSub, ↓EU_region, ↓EU_draw, g23]⟩
            | false =>
              simp (maxSteps := 1000000) (disch := first | decide | omega | (simp only [go_sem]; first | done | omega)) only [go_sem, Int.reduceToNat, Nat.reduceMul, Nat.reduceAdd, Nat.reduceSub, ↓EU_region, ↓EU_draw, g2, g3, g5, g21, g22, g23, hhp, hX3p, hY3p]
              rw [ifF_t]
              repeat refine WPo_ob ?_
              have hlit := OW.lit fltE_len hp [(⟨10, x.id⟩ : Flt)]
              rw [List.flatMap_cons, List.flatMap_nil, List.append_nil] at hlit
              unfold fltE at hlit
              refine append_gr (l := acc) (l' := [(⟨10, x.id⟩ : Flt)]) fc_ap_122_122 fltE_len (by decide) fltE_scal (hov3.ext ((Ext.refl hp).push _)) hlit.sl (by simp only [List.length_append, List.length_cons, List.length_nil]; omega) (by simp only [List.length_append, List.length_cons, List.length_nil]; omega) fun v' h5 hov5 gr5 => ?_
              simp (maxSteps := 1000000) (disch := first | decide | omega | (simp only [go_sem]; first | done | omega)) only [go_sem, Int.reduceToNat, Nat.reduceMul, Nat.reduceAdd, Nat.reduceSub, ↓EU_region, ↓EU_draw, g2, g3, g5, g21, g22, g23]
              exact ⟨_, _, _, rfl, hov5, (gr3.push _).trans gr5, by rw [gr5.old _ (by rw [next_push]; omega) (fun q => by have := hov.lt q; omega), get_push_old _ (by omega)]; exact hX3p, by rw [gr5.old _ (by rw [next_push]; omega) (fun q => by have := hov.lt q; omega), get_push_old _ (by omega)]; exact hY3p, by simp (maxSteps := 1000000) (disch := first | decide | omega | (simp only [go_sem]; first | done | omega)) only [go_sem, Int.reduceToNat, Nat.reduceMul, Nat.reduceAdd, Nat.reduceSub, ↓EU_region, ↓EU_draw, g2], by simp (maxSteps := 1000000) (disch := first | decide | omega | (simp only [go_sem]; first | done | omega)) only [go_sem, Int.reduceToNat, Nat.reduceMul, Nat.reduceAdd, Nat.reduceSub, ↓EU_region, ↓EU_draw, g3], by simp (maxSteps := 1000000) (disch := first | decide | omega | (simp only [go_sem]; first | done | omega)) only [go_sem, Int.reduceToNat, Nat.reduceMul, Nat.reduceAdd, Nat.reduceSub, ↓EU_region, ↓EU_draw], by simp (maxSteps := 1000000) (disch := first | decide | omega | (simp only [go_sem]; first | done | omega)) only [go_sem, Int.reduceToNat, Nat.reduceMul, Nat.reduceAdd, Nat.reduceSub, ↓EU_region, ↓EU_draw], by simp (maxSteps := 1000000) (disch := first | decide | omega | (simp only [go_sem]; first | done | omega)) only [go_sem, Int.reduceToNat, Nat.reduceMul, Nat.reduceAdd, Nat.reduceSub, ↓EU_region, ↓EU_draw], by simp (maxSteps := 1000000) (disch := first | decide | omega | (simp only [go_sem]; first | done | omega)) only [go_sem, Int.reduceToNat, Nat.reduceMul, Nat.reduceAdd, Nat.reduceSub, ↓EU_region, ↓EU_draw, g21], by simp (maxSteps := 1000000) (disch := first | decide | omega | (simp only [go_sem]; first | done | omega)) only [go_sem, Int.reduceToNat, Nat.reduceMul, Nat.reduceAdd, Nat.reduceSub, ↓EU_region, ↓EU_draw, g22], by simp (maxSteps := 1000000) (disch := first | decide | omega | (simp only [go_sem]; first | done | omega)) only [go_sem, Int.reduceToNat, Nat.reduceMul, Nat.reduceAdd, Nat.reduceSub, ↓EU_region, ↓EU_draw, g23]⟩
          · have hl5 := ifF_len (!decide (y.w = x.w)) ⟨10, x.id⟩
            have hfin : acc ++ wantF l x = (acc ++ ifF (!decide (y.w = x.w)) ⟨10, x.id⟩) ++ ifF (!decide (y.lag = x.lag)) ⟨11, x.id⟩ := by rw [hw, List.append_assoc]
            generalize hA5 : acc ++ ifF (!decide (y.w = x.w)) ⟨10, x.id⟩ = A5 at *
            have hAl : A5.length ≤ 2 * i + 1 := by rw [← hA5, List.length_append]; omega
            clear g2 g3 g5 g21 g22 g23 hX3p hY3p hov3 gr3
            rintro _ ⟨tm5, h6, u5, rfl, hov6, gr6, hX6, hY6, g2, g3, g5, g7, g8, g21, g22, g23⟩
            obtain ⟨av6, kv6, rfl⟩ := hov6.val
            cases hd : decide (y.lag = x.lag) with
            | true =>
              simp (maxSteps := 1000000) (disch := first | decide | omega | (simp only [go_sem]; first | done | omega)) only [go_sem, Int.reduceToNat, Nat.reduceMul, Nat.reduceAdd, Nat.reduceSub, ↓EU_region, ↓EU_draw, g2, g3, g5, g7, g8, g21, g22, g23, hX6, hY6, hd, hwi]
              rw [hd, Bool.not_true, ifF_f, List.append_nil] at hfin
              exact ⟨_, by omega, i + 1, _, _, _, _, rfl, rfl, by omega, by simp (maxSteps := 1000000) (disch := first | decide | omega | (simp only [go_sem]; first | done | omega)) only [go_sem, Int.reduceToNat, Nat.reduceMul, Nat.reduceAdd, Nat.reduceSub, ↓EU_region, ↓EU_draw, g2], by simp (maxSteps := 1000000) (disch := first | decide | omega | (simp only [go_sem]; first | done | omega)) only [go_sem, Int.reduceToNat, Nat.reduceMul, Nat.reduceAdd, Nat.reduceSub, ↓EU_region, ↓EU_draw, g3], by simp (maxSteps := 1000000) (disch := first | decide | omega | (simp only [go_sem]; first | done | omega)) only [go_sem, Int.reduceToNat, Nat.reduceMul, Nat.reduceAdd, Nat.reduceSub, ↓EU_region, ↓EU_draw, g5], by simp (maxSteps := 1000000) (disch := first | decide | omega | (simp only [go_sem]; first | done | omega)) only [go_sem, Int.reduceToNat, Nat.reduceMul, Nat.reduceAdd, Nat.reduceSub, ↓EU_region, ↓EU_draw, g21], by simp (maxSteps := 1000000) (disch := first | decide | omega | (simp only [go_sem]; first | done | omega)) only [go_sem, Int.reduceToNat, Nat.reduceMul, Nat.reduceAdd, Nat.reduceSub, ↓EU_region, ↓EU_draw, g22], by simp (maxSteps := 1000000) (disch := first | decide | omega | (simp only [go_sem]; first | done | omega)) only [go_sem, Int.reduceToNat, Nat.reduceMul, Nat.reduceAdd, Nat.reduceSub, ↓EU_region, ↓EU_draw], hov6, by rw [htk, ← hacc, hfin], gr6⟩
            | false =>
              simp (maxSteps := 1000000) (disch := first | decide | omega | (simp only [go_sem]; first | done | omega)) only [go_sem, Int.reduceToNat, Nat.reduceMul, Nat.reduceAdd, Nat.reduceSub, ↓EU_region, ↓EU_draw, g2, g3, g5, g7, g8, g21, g22, g23, hX6, hY6, hd, hwi]
              rw [hd, Bool.not_false, ifF_t] at hfin
              repeat refine WPo_ob ?_
              have hlit := OW.lit fltE_len h6 [(⟨11, x.id⟩ : Flt)]
              rw [List.flatMap_cons, List.flatMap_nil, List.append_nil] at hlit
              unfold fltE at hlit
              refine append_gr (l := A5) (l' := [(⟨11, x.id⟩ : Flt)]) fc_ap_122_122 fltE_len (by decide) fltE_scal (hov6.ext ((Ext.refl h6).push _)) hlit.sl (by simp only [List.length_append, List.length_cons, List.length_nil]; omega) (by simp only [List.length_append, List.length_cons, List.length_nil]; omega) fun v' h5 hov5 gr5 => ?_
              simp (maxSteps := 1000000) (disch := first | decide | omega | (simp only [go_sem]; first | done | omega)) only [go_sem, Int.reduceToNat, Nat.reduceMul, Nat.reduceAdd, Nat.reduceSub, ↓EU_region, ↓EU_draw, g2, g3, g5, g7, g8, g21, g22, g23, hX6, hY6, hd, hwi]
              exact ⟨_, by omega, i + 1, _, _, _, _, rfl, rfl, by omega, by simp (maxSteps := 1000000) (disch := first | decide | omega | (simp only [go_sem]; first | done | omega)) only [go_sem, Int.reduceToNat, Nat.reduceMul, Nat.reduceAdd, Nat.reduceSub, ↓EU_region, ↓EU_draw, g2], by simp (maxSteps := 1000000) (disch := first | decide | omega | (simp only [go_sem]; first | done | omega)) only [go_sem, Int.reduceToNat, Nat.reduceMul, Nat.reduceAdd, Nat.reduceSub, ↓EU_region, ↓EU_draw, g3], by simp (maxSteps := 1000000) (disch := first | decide | omega | (simp only [go_sem]; first | done | omega)) only [go_sem, Int.reduceToNat, Nat.reduceMul, Nat.reduceAdd, Nat.reduceSub, ↓EU_region, ↓EU_draw], by simp (maxSteps := 1000000) (disch := first | decide | omega | (simp only [go_sem]; first | done | omega)) only [go_sem, Int.reduceToNat, Nat.reduceMul, Nat.reduceAdd, Nat.reduceSub, ↓EU_region, ↓EU_draw, g21], by simp (maxSteps := 1000000) (disch := first | decide | omega | (simp only [go_sem]; first | done | omega)) only [go_sem, Int.reduceToNat, Nat.reduceMul, Nat.reduceAdd, Nat.reduceSub, ↓EU_region, ↓EU_draw, g22], by simp (maxSteps := 1000000) (disch := first | decide | omega | (simp only [go_sem]; first | done | omega)) only [go_sem, Int.reduceToNat, Nat.reduceMul, Nat.reduceAdd, Nat.reduceSub, ↓EU_region, ↓EU_draw], hov5, by rw [htk, ← hacc, hfin], (gr6.push _).trans gr5⟩
      · simp only [decide_eq_false_iff_not] at b1
        have : i = m.length := by omega
        subst this
        rw [List.take_length] at hacc
        subst hacc
        simp (maxSteps := 1000000) (disch := first | decide | omega | (simp only [go_sem]; first | done | omega)) only [go_sem, Int.reduceToNat, Nat.reduceMul, Nat.reduceAdd, Nat.reduceSub, ↓EU_region, ↓EU_draw]
        exact ⟨_, _, _, rfl, trivial, by simp (maxSteps := 1000000) (disch := first | decide | omega | (simp only [go_sem]; first | done | omega)) only [go_sem, Int.reduceToNat, Nat.reduceMul, Nat.reduceAdd, Nat.reduceSub, ↓EU_region, ↓EU_draw, g2], by simp (maxSteps := 1000000) (disch := first | decide | omega | (simp only [go_sem]; first | done | omega)) only [go_sem, Int.reduceToNat, Nat.reduceMul, Nat.reduceAdd, Nat.reduceSub, ↓EU_region, ↓EU_draw, g3], by simp (maxSteps := 1000000) (disch := first | decide | omega | (simp only [go_sem]; first | done | omega)) only [go_sem, Int.reduceToNat, Nat.reduceMul, Nat.reduceAdd, Nat.reduceSub, ↓EU_region, ↓EU_draw, g5], hov, gr⟩
    · exact ⟨0, _, _, _, [], rfl, rfl, by omega, by simp (maxSteps := 1000000) (disch := first | decide | omega | (simp only [go_sem]; first | done | omega)) only [go_sem, Int.reduceToNat, Nat.reduceMul, Nat.reduceAdd, Nat.reduceSub, ↓EU_region, ↓EU_draw], by simp (maxSteps := 1000000) (disch := first | decide | omega | (simp only [go_sem]; first | done | omega)) only [go_sem, Int.reduceToNat, Nat.reduceMul, Nat.reduceAdd, Nat.reduceSub, ↓EU_region, ↓EU_draw], by simp (maxSteps := 1000000) (disch := first | decide | omega | (simp only [go_sem]; first | done | omega)) only [go_sem, Int.reduceToNat, Nat.reduceMul, Nat.reduceAdd, Nat.reduceSub, ↓EU_region, ↓EU_draw], by simp (maxSteps := 1000000) (disch := first | decide | omega | (simp only [go_sem]; first | done | omega)) only [go_sem, Int.reduceToNat, Nat.reduceMul, Nat.reduceAdd, Nat.reduceSub, ↓EU_region, ↓EU_draw], by simp (maxSteps := 1000000) (disch := first | decide | omega | (simp only [go_sem]; first | done | omega)) only [go_sem, Int.reduceToNat, Nat.reduceMul, Nat.reduceAdd, Nat.reduceSub, ↓EU_region, ↓EU_draw], by simp (maxSteps := 1000000) (disch := first | decide | omega | (simp only [go_sem]; first | done | omega)) only [go_sem, Int.reduceToNat, Nat.reduceMul, Nat.reduceAdd, Nat.reduceSub, ↓EU_region, ↓EU_draw]; rfl, ho0, rfl, Gr.refl _ _⟩
    · omega
    · rintro ⟨q, _⟩ ⟨tm, h2, u, rfl, rfl, g2, g3, g5, hov, gr⟩
      have x2 : Ext h h2 := ⟨Nat.le_trans y1.le gr.le, fun j hj => (gr.old j (Nat.lt_of_lt_of_le hj y1.le) (fun q => by have := hf0 j q; omega)).trans (y1.old j hj)⟩
      have hA : h2.get h.next = .cells [.int .i64 c1, .slice a l.length c] 0 := (gr.old _ (by omega) (fun q => by have := hf0 _ q; omega)).trans hA1
      have hgl := flat_len (wantF l) 2 (wantF_len l) m
      generalize hW : m.flatMap (wantF l) = W at *
      obtain ⟨au, ku, rfl⟩ := hov.val
      simp (maxSteps := 1000000) (disch := first | decide | omega | (simp only [go_sem]; first | done | omega)) only [go_sem, Int.reduceToNat, Nat.reduceMul, Nat.reduceAdd, Nat.reduceSub, ↓EU_region, ↓EU_draw, g2, g3, g5, hA]
      repeat refine WPo_ob ?_
      refine (LP_rule (fun n st => ∃ (i : Nat) (tm : Fr) (h2 : Heap) (u : Value) (acc : List Flt), st = ⟨tm, h2, []⟩ ∧ n = l.length - i ∧ i ≤ l.length ∧ Fr.get tm 2 = ptr h.next 0 ∧ Fr.get tm 3 = ptr (h.next + 1) 0 ∧ Fr.get tm 5 = u ∧ Fr.get tm 66 = .slice a l.length c ∧ Fr.get tm 67 = .int .i64 l.length ∧ Fr.get tm 68 = .int .i64 i ∧ OW fltE 2 h2 u acc ∧ acc = W ++ (l.take i).flatMap (gotF m) ∧ Gr (.slice av 0 kv) h1 u h2)
        (fun q => ∃ tm h2 u, q.2 = ⟨tm, h2, []⟩ ∧ q.1 = .exit 2 ∧ Fr.get tm 2 = ptr h.next 0 ∧ Fr.get tm 3 = ptr (h.next + 1) 0 ∧ Fr.get tm 5 = u ∧ OW fltE 2 h2 u (W ++ l.flatMap (gotF m)) ∧ Gr (.slice av 0 kv) h1 u h2) ?_ l.length _ _ ?_ ?_).mono ?_
      · clear hov gr g2 g3 g5 x2 hA
        rintro n _ ⟨i, tm, h2, u, acc, rfl, rfl, hi, g2, g3, g5, g66, g67, g68, hov, hacc, gr⟩
        have x2 : Ext h h2 := ⟨Nat.le_trans y1.le gr.le, fun j hj => (gr.old j (Nat.lt_of_lt_of_le hj y1.le) (fun q => by have := hf0 j q; omega)).trans (y1.old j hj)⟩
        have hB : h2.get (h.next + 1) = .cells [.int .i64 c2, .slice a2 m.length k2] 0 := (gr.old _ (by omega) (fun q => by have := hf0 _ q; omega)).trans hB1
        have hn2 := gr.le
        have hal : acc.length ≤ 2 * m.length + i := by
          have := flat_len (gotF m) 1 (fun x => ifF_len _ _) (l.take i)
          rw [List.length_take] at this
          rw [hacc, List.length_append]; omega
        obtain ⟨au, ku, rfl⟩ := hov.val
        simp (maxSteps := 1000000) (disch := first | decide | omega | (simp only [go_sem]; first | done | omega)) only [go_sem, Int.reduceToNat, Nat.reduceMul, Nat.reduceAdd, Nat.reduceSub, ↓EU_region, ↓EU_draw, g2, g3, g5, g66, g67, g68]
        ((repeat refine WPo_ob ?_); (first | refine WPo_cond (fun b1 => ?_) (fun b1 => ?_) | refine WPo_gard (fun b1 => ?_) (fun b1 => ?_) | refine WPo_gardT (fun b1 => ?_) (fun b1 => ?_)) <;> (try simp only [Bool.not_eq_true', Bool.not_eq_false'] at b1))
        · have b1' := b1
          simp only [decide_eq_true_eq] at b1'
          have hi' : i < l.length := by omega
          obtain ⟨x, hx⟩ : ∃ x, l[i]? = some x := ⟨_, List.getElem?_eq_getElem hi'⟩
          obtain ⟨b, o, c', e, hb', hrd, hr⟩ := (hs.ext x2).at hx rfl
          cases e
          have hwi : wrapF .i64 ((i : Int) + 1) = ((i + 1 : Nat) : Int) := by rw [wrap64 (by omega)]; omega
          have htk := take_flat (gotF m) hx
          have hfd := ofind_ev c2 m (.slice a2 m.length k2) x.id (h2.push (.cells (itemE x) 0)) (ht.ext (x2.push _)) hm
          unfold formV at hfd
          simp (maxSteps := 1000000) (disch := first | decide | omega | (simp only [go_sem]; first | done | omega)) only [go_sem, Int.reduceToNat, Nat.reduceMul, Nat.reduceAdd, Nat.reduceSub, ↓EU_region, ↓EU_draw, g2, g3, g5, g66, g67, g68, hrd, hB]
          repeat refine WPo_ob ?_
          refine hfd.bind fun h3 x3 => ?_
          have hn3 := x3.le
          rw [next_push] at hn3
          have hX3 : h3.get h2.next = .cells (itemE x) 0 := (x3.old _ (by rw [next_push]; omega)).trans (get_push_new _ _)
          have y3 : Ext h2 h3 := ((Ext.refl h2).push _).trans x3
          have hov3 := (hov.ext y3).ext ((Ext.refl h3).push (.cells (itemE (fndR x.id m)) 0))
          have gr3 := (gr.ext y3).push (.cells (itemE (fndR x.id m)) 0)
          have hX3p : (h3.push (.cells (itemE (fndR x.id m)) 0)).get h2.next = .cells (itemE x) 0 := by rw [get_push_old _ (by omega)]; exact hX3
          generalize hyy : fndR x.id m = y at *
          generalize hhp : h3.push (.cells (itemE y) 0) = hp at *
          cases hq : m.any (byId x.id) with
          | false =>
            have hw : gotF m x = [⟨9, x.id⟩] := by unfold gotF; rw [hq]; rfl
            simp (maxSteps := 1000000) (disch := first | decide | omega | (simp only [go_sem]; first | done | omega)) only [go_sem, Int.reduceToNat, Nat.reduceMul, Nat.reduceAdd, Nat.reduceSub, ↓EU_region, ↓EU_draw, g2, g3, g5, g66, g67, g68, hhp, hX3p]
            repeat refine WPo_ob ?_
            have hlit := OW.lit fltE_len hp [(⟨9, x.id⟩ : Flt)]
            rw [List.flatMap_cons, List.flatMap_nil, List.append_nil] at hlit
            unfold fltE at hlit
            refine append_gr (l := acc) (l' := [(⟨9, x.id⟩ : Flt)]) fc_ap_122_122 fltE_len (by decide) fltE_scal (hov3.ext ((Ext.refl hp).push _)) hlit.sl (by simp only [List.length_append, List.length_cons, List.length_nil]; omega) (by simp only [List.length_append, List.length_cons, List.length_nil]; omega) fun v' h5 hov5 gr5 => ?_
            simp (maxSteps := 1000000) (disch := first | decide | omega | (simp only [go_sem]; first | done | omega)) only [go_sem, Int.reduceToNat, Nat.reduceMul, Nat.reduceAdd, Nat.reduceSub, ↓EU_region, ↓EU_draw, g2, g3, g5, g66, g67, g68, hwi]
            exact ⟨_, by omega, i + 1, _, _, _, _, rfl, rfl, by omega, by simp (maxSteps := 1000000) (disch := first | decide | omega | (simp only [go_sem]; first | done | omega)) only [go_sem, Int.reduceToNat, Nat.reduceMul, Nat.reduceAdd, Nat.reduceSub, ↓EU_region, ↓EU_draw, g2], by simp (maxSteps := 1000000) (disch := first | decide | omega | (simp only [go_sem]; first | done | omega)) only [go_sem, Int.reduceToNat, Nat.reduceMul, Nat.reduceAdd, Nat.reduceSub, ↓EU_region, ↓EU_draw, g3], by simp (maxSteps := 1000000) (disch := first | decide | omega | (simp only [go_sem]; first | done | omega)) only [go_sem, Int.reduceToNat, Nat.reduceMul, Nat.reduceAdd, Nat.reduceSub, ↓EU_region, ↓EU_draw], by simp (maxSteps := 1000000) (disch := first | decide | omega | (simp only [go_sem]; first | done | omega)) only [go_sem, Int.reduceToNat, Nat.reduceMul, Nat.reduceAdd, Nat.reduceSub, ↓EU_region, ↓EU_draw, g66], by simp (maxSteps := 1000000) (disch := first | decide | omega | (simp only [go_sem]; first | done | omega)) only [go_sem, Int.reduceToNat, Nat.reduceMul, Nat.reduceAdd, Nat.reduceSub, ↓EU_region, ↓EU_draw, g67], by simp (maxSteps := 1000000) (disch := first | decide | omega | (simp only [go_sem]; first | done | omega)) only [go_sem, Int.reduceToNat, Nat.reduceMul, Nat.reduceAdd, Nat.reduceSub, ↓EU_region, ↓EU_draw], hov5, by rw [htk, hw, hacc, List.append_assoc], (gr3.push _).trans gr5⟩
          | true =>
            have hw : gotF m x = [] := by unfold gotF; rw [hq]; rfl
            simp (maxSteps := 1000000) (disch := first | decide | omega | (simp only [go_sem]; first | done | omega)) only [go_sem, Int.reduceToNat, Nat.reduceMul, Nat.reduceAdd, Nat.reduceSub, ↓EU_region, ↓EU_draw, g2, g3, g5, g66, g67, g68, hhp, hX3p, hwi]
            exact ⟨_, by omega, i + 1, _, _, _, _, rfl, rfl, by omega, by simp (maxSteps := 1000000) (disch := first | decide | omega | (simp only [go_sem]; first | done | omega)) only [go_sem, Int.reduceToNat, Nat.reduceMul, Nat.reduceAdd, Nat.reduceSub, ↓EU_region, ↓EU_draw, g2], by simp (maxSteps := 1000000) (disch := first | decide | omega | (simp only [go_sem]; first | done | omega)) only [go_sem, Int.reduceToNat, Nat.reduceMul, Nat.reduceAdd, Nat.reduceSub, ↓EU_region, ↓EU_draw, g3], by simp (maxSteps := 1000000) (disch := first | decide | omega | (simp only [go_sem]; first | done | omega)) only [go_sem, Int.reduceToNat, Nat.reduceMul, Nat.reduceAdd, Nat.reduceSub, ↓EU_region, ↓EU_draw, g5], by simp (maxSteps := 1000000) (disch := first | decide | omega | (simp only [go_sem]; first | done | omega)) only [go_sem, Int.reduceToNat, Nat.reduceMul, Nat.reduceAdd, Nat.reduceSub, ↓EU_region, ↓EU_draw, g66], by simp (maxSteps := 1000000) (disch := first | decide | omega | (simp only [go_sem]; first | done | omega)) only [go_sem, Int.reduceToNat, Nat.reduceMul, Nat.reduceAdd, Nat.reduceSub, ↓EU_region, ↓EU_draw, g67], by simp (maxSteps := 1000000) (disch := first | decide | omega | (simp only [go_sem]; first | done | omega)) only [go_sem, Int.reduceToNat, Nat.reduceMul, Nat.reduceAdd, Nat.reduceSub, ↓EU_region, ↓EU_draw], hov3, by rw [htk, hw, hacc, List.append_nil], gr3⟩
        · simp only [decide_eq_false_iff_not] at b1
          have : i = l.length := by omega
          subst this
          rw [List.take_length] at hacc
          subst hacc
          simp (maxSteps := 1000000) (disch := first | decide | omega | (simp only [go_sem]; first | done | omega)) only [go_sem, Int.reduceToNat, Nat.reduceMul, Nat.reduceAdd, Nat.reduceSub, ↓EU_region, ↓EU_draw]
          exact ⟨_, _, _, rfl, trivial, by simp (maxSteps := 1000000) (disch := first | decide | omega | (simp only [go_sem]; first | done | omega)) only [go_sem, Int.reduceToNat, Nat.reduceMul, Nat.reduceAdd, Nat.reduceSub, ↓EU_region, ↓EU_draw, g2], by simp (maxSteps := 1000000) (disch := first | decide | omega | (simp only [go_sem]; first | done | omega)) only [go_sem, Int.reduceToNat, Nat.reduceMul, Nat.reduceAdd, Nat.reduceSub, ↓EU_region, ↓EU_draw, g3], by simp (maxSteps := 1000000) (disch := first | decide | omega | (simp only [go_sem]; first | done | omega)) only [go_sem, Int.reduceToNat, Nat.reduceMul, Nat.reduceAdd, Nat.reduceSub, ↓EU_region, ↓EU_draw, g5], hov, gr⟩
      · exact ⟨0, _, _, _, W, rfl, rfl, by omega, by simp (maxSteps := 1000000) (disch := first | decide | omega | (simp only [go_sem]; first | done | omega)) only [go_sem, Int.reduceToNat, Nat.reduceMul, Nat.reduceAdd, Nat.reduceSub, ↓EU_region, ↓EU_draw, g2], by simp (maxSteps := 1000000) (disch := first | decide | omega | (simp only [go_sem]; first | done | omega)) only [go_sem, Int.reduceToNat, Nat.reduceMul, Nat.reduceAdd, Nat.reduceSub, ↓EU_region, ↓EU_draw, g3], by simp (maxSteps := 1000000) (disch := first | decide | omega | (simp only [go_sem]; first | done | omega)) only [go_sem, Int.reduceToNat, Nat.reduceMul, Nat.reduceAdd, Nat.reduceSub, ↓EU_region, ↓EU_draw, g5], by simp (maxSteps := 1000000) (disch := first | decide | omega | (simp only [go_sem]; first | done | omega)) only [go_sem, Int.reduceToNat, Nat.reduceMul, Nat.reduceAdd, Nat.reduceSub, ↓EU_region, ↓EU_draw], by simp (maxSteps := 1000000) (disch := first | decide | omega | (simp only [go_sem]; first | done | omega)) only [go_sem, Int.reduceToNat, Nat.reduceMul, Nat.reduceAdd, Nat.reduceSub, ↓EU_region, ↓EU_draw], by simp (maxSteps := 1000000) (disch := first | decide | omega | (simp only [go_sem]; first | done | omega)) only [go_sem, Int.reduceToNat, Nat.reduceMul, Nat.reduceAdd, Nat.reduceSub, ↓EU_region, ↓EU_draw]; rfl, hov, by simp, gr⟩
      · omega
      · clear hov gr g2 g3 g5 x2 hA
        rintro ⟨q, _⟩ ⟨tm, h2, u, rfl, rfl, g2, g3, g5, hov, gr⟩
        have x2 : Ext h h2 := ⟨Nat.le_trans y1.le gr.le, fun j hj => (gr.old j (Nat.lt_of_lt_of_le hj y1.le) (fun q => by have := hf0 j q; omega)).trans (y1.old j hj)⟩
        have hA : h2.get h.next = .cells [.int .i64 c1, .slice a l.length c] 0 := (gr.old _ (by omega) (fun q => by have := hf0 _ q; omega)).trans hA1
        have hB : h2.get (h.next + 1) = .cells [.int .i64 c2, .slice a2 m.length k2] 0 := (gr.old _ (by omega) (fun q => by have := hf0 _ q; omega)).trans hB1
        have hgl2 := flat_len (gotF m) 1 (fun x => ifF_len _ _) l
        have hdf2 : df = (W ++ l.flatMap (gotF m)) ++ ifF (!decide (c1 = c2)) ⟨12, c1⟩ := by rw [← hdf, ← hW]; rfl
        have hGl : (W ++ l.flatMap (gotF m)).length ≤ 2 * m.length + l.length := by rw [List.length_append]; omega
        generalize hG : W ++ l.flatMap (gotF m) = G at *
        have hfu : Fresh (h.next + 1 + 1) u := gr.fresh hf0 (by omega)
        obtain ⟨au, ku, rfl⟩ := hov.val
        simp (maxSteps := 1000000) (disch := first | decide | omega | (simp only [go_sem]; first | done | omega)) only [go_sem, Int.reduceToNat, Nat.reduceMul, Nat.reduceAdd, Nat.reduceSub, ↓EU_region, ↓EU_draw, g2, g3, g5, hA, hB]
        cases hd : decide (c1 = c2) with
        | true =>
          rw [hd, Bool.not_true, ifF_f, List.append_nil] at hdf2
          subst hdf2
          simp (maxSteps := 1000000) (disch := first | decide | omega | (simp only [go_sem]; first | done | omega)) only [go_sem, Int.reduceToNat, Nat.reduceMul, Nat.reduceAdd, Nat.reduceSub, ↓EU_region, ↓EU_draw, hd, g5]
          repeat refine WPo_ob ?_
          refine (clip_ev df _ h2 hov (by omega)).mono ?_
          rintro ⟨w, h3⟩ ⟨rfl, how, hbw⟩
          obtain ⟨aw, kw, rfl⟩ := how.val
          simp (maxSteps := 1000000) (disch := first | decide | omega | (simp only [go_sem]; first | done | omega)) only [go_sem, Int.reduceToNat, Nat.reduceMul, Nat.reduceAdd, Nat.reduceSub, ↓EU_region, ↓EU_draw]
          exact ⟨how, fun j hj => by have := hfu j (hbw j hj); omega, x2⟩
        | false =>
          rw [hd, Bool.not_false, ifF_t] at hdf2
          simp (maxSteps := 1000000) (disch := first | decide | omega | (simp only [go_sem]; first | done | omega)) only [go_sem, Int.reduceToNat, Nat.reduceMul, Nat.reduceAdd, Nat.reduceSub, ↓EU_region, ↓EU_draw, hd, g2, g5, hA]
          repeat refine WPo_ob ?_
          have hlit := OW.lit fltE_len h2 [(⟨12, c1⟩ : Flt)]
          rw [List.flatMap_cons, List.flatMap_nil, List.append_nil] at hlit
          unfold fltE at hlit
          refine append_gr (l := G) (l' := [(⟨12, c1⟩ : Flt)]) fc_ap_122_122 fltE_len (by decide) fltE_scal (hov.ext ((Ext.refl h2).push _)) hlit.sl (by simp only [List.length_append, List.length_cons, List.length_nil]; omega) (by simp only [List.length_append, List.length_cons, List.length_nil]; omega) fun v' h5 hov5 gr5 => ?_
          rw [← hdf2] at hov5
          have hdl : df.length ≤ 2 * m.length + l.length + 1 := by rw [hdf2, List.length_append, List.length_singleton]; omega
          have gr6 := (gr.push (.cells [.int .i64 12, .int .i64 c1] 2)).trans gr5
          obtain ⟨a5, k5, rfl⟩ := hov5.val
          simp (maxSteps := 1000000) (disch := first | decide | omega | (simp only [go_sem]; first | done | omega)) only [go_sem, Int.reduceToNat, Nat.reduceMul, Nat.reduceAdd, Nat.reduceSub, ↓EU_region, ↓EU_draw]
          repeat refine WPo_ob ?_
          refine (clip_ev df _ h5 hov5 (by omega)).mono ?_
          rintro ⟨w, h3⟩ ⟨rfl, how, hbw⟩
          obtain ⟨aw, kw, rfl⟩ := how.val
          simp (maxSteps := 1000000) (disch := first | decide | omega | (simp only [go_sem]; first | done | omega)) only [go_sem, Int.reduceToNat, Nat.reduceMul, Nat.reduceAdd, Nat.reduceSub, ↓EU_region, ↓EU_draw]
          exact ⟨how, fun j hj => by have := (gr6.fresh hf0 (by omega)) j (hbw j hj); omega, ⟨Nat.le_trans y1.le gr6.le, fun j hj => (gr6.old j (Nat.lt_of_lt_of_le hj y1.le) (fun q => by have := hf0 j q; omega)).trans (y1.old j hj)⟩⟩
end Go.Proofs.YtddgcakiceodgaaGreat.EV
