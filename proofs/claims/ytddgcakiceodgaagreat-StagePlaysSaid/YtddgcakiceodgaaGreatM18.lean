/- Contract: check.Faults. No condition. Contracts: shadow.Write, Make, Fits; (*core.Core).Change. No condition. Contracts: (*stage.Try).next. No condition. -/
import Derived.Test.YtddgcakiceodgaaGreatM17
import Derived.Test.YtddgcakiceodgaaGreatM13
namespace Go.Proofs.YtddgcakiceodgaaGreat.EV
open Go Go.Proofs
set_option linter.unusedVariables false
set_option linter.unusedSimpArgs false
set_option maxRecDepth 100000
noncomputable def wantF (l : List Item) (x : Item) : List Flt := if l.any (byId x.id) then ifF (!decide ((fndR x.id l).w = x.w)) ⟨10, x.id⟩ ++ ifF (!decide ((fndR x.id l).lag = x.lag)) ⟨11, x.id⟩ else [⟨8, x.id⟩]
noncomputable def gotF (m : List Item) (x : Item) : List Flt := ifF (!m.any (byId x.id)) ⟨9, x.id⟩
noncomputable def diffF (c1 : Int) (l : List Item) (c2 : Int) (m : List Item) : List Flt := (m.flatMap (wantF l) ++ l.flatMap (gotF m)) ++ ifF (!decide (c1 = c2)) ⟨12, c1⟩
noncomputable def faultsF (c1 : Int) (l : List Item) (c2 : Int) (m : List Item) : List Flt := if decide (((formF c1 l).length : Int) > 0) then formF c1 l else diffF c1 l c2 m
theorem wantF_len (l : List Item) (x : Item) : (wantF l x).length ≤ 2 := by
 have h1 := ifF_len (!decide ((fndR x.id l).w = x.w)) ⟨10, x.id⟩
 have h2 := ifF_len (!decide ((fndR x.id l).lag = x.lag)) ⟨11, x.id⟩
 unfold wantF
 split
 ·rw [List.length_append]; omega
 ·simp
theorem flat_len {α β : Type} (f : α → List β) (k : Nat) (hf : ∀ x, (f x).length ≤ k) : ∀ l : List α, (l.flatMap f).length ≤ k * l.length
 | [] => Nat.zero_le _
 | x :: l => by
  have := flat_len f k hf l
  have h1 := hf x
  rw [List.flatMap_cons, List.length_append, List.length_cons, Nat.mul_add]
  omega
theorem take_flat {α β : Type} (f : α → List β) {l : List α} {i : Nat} {x : α} (h : l[i]? = some x) : (l.take (i + 1)).flatMap f = (l.take i).flatMap f ++ f x := by
 rw [List.take_add_one, h, List.flatMap_append]
 simp
theorem clip_cut {α : Type} {e : α → List Value} {es : Nat} {h : Heap} {P : Program} {t : TypeId} {v : Value} {l : List α} (ht : slT P t = some es) (hs : OW e es h v l) (k k' : IntKind) :
  ∃ u, CUT P h t v none (some (.int k (l.length : Int))) (some (.int k' (l.length : Int))) = some (u, h) ∧ OW e es h u l ∧ ∀ i, blkOf u i → blkOf v i := by
 cases hs with
 | nil =>
  rw [CUT_nil, ht, ob_s]
  exact ⟨.slice none 0 1, rfl, .nil, fun i hi => hi⟩
 | mk b o c l cs hb hc hcap hl hx =>
  have hce : cutEnds l.length (c / 2) none (some (.int k (l.length : Int))) (some (.int k' (l.length : Int))) = some (0, l.length, l.length, true) := by
   unfold cutEnds
   simp only [natOf_nat, ble_nat hcap, cnd_true, ble_nat (Nat.le_refl l.length)]
  rw [CUT_sl, ht, ob_s, hce, ob_s]
  unfold evCutSl
  dsimp only
  rw [Bool.true_or, cnd_true, Nat.zero_mul, Nat.add_zero, Nat.sub_zero]
  have hle : l.length * es ≤ c / 2 * es := Nat.mul_le_mul_right _ hcap
  refine ⟨_, rfl, ?_, fun i hi => by simpa [blkOf] using hi⟩
  rw [show cnd (Nat.beq l.length 0) o o = o by cases Nat.beq l.length 0 <;> rfl]
  exact .mk b o _ l cs hb hc (by omega) (by rw [show (2 * l.length + 1) / 2 = l.length by omega]; omega) hx
theorem clip_ev (l : List Flt) (s : Value) (h : Heap) (hs : OW fltE 2 h s l) (hl : l.length < 9000000) :
  WPo (EF Tryz.prog O0 86 [s] h) fun q => q.2 = h ∧ OW fltE 2 h q.1 l ∧ ∀ i, blkOf q.1 i → blkOf s i := by
 rw [EF_body (O := O0) (by kernel_rfl) Tryz.func86 rfl (rs := [.tmp 2]) rfl (bad := []) (by kernel_rfl) _ _ (m := 9) rfl]
 obtain ⟨u, hu, hou, hbu⟩ := clip_cut fc_sl_122 hs .i64 .i64
 obtain ⟨av, kv, rfl⟩ := hs.val
 simp (disch := first|exact dis|fail) only [go_sem, Int.reduceToNat, Nat.reduceMul, Nat.reduceAdd, Nat.reduceSub, ↓EU_rg, hu]
 obtain ⟨au, ku, rfl⟩ := hou.val
 exact ⟨trivial, hou, hbu⟩
set_option maxHeartbeats 1000000 in
theorem faults_ev (c1 c2 : Int) (l m : List Item) (s t : Value) (h : Heap) (hs : SL itemE 3 h s l) (ht : SL itemE 3 h t m) (hl : l.length < 900000) (hm : m.length < 900000) :
  WPo (EF Tryz.prog O0 77 [formV c1 s, formV c2 t] h) fun q => OW fltE 2 q.2 q.1 (faultsF c1 l c2 m) ∧ Fresh h.next q.1 ∧ Ext h q.2 := by
 rw [EF_body (O := O0) (by kernel_rfl) Tryz.func77 rfl (rs := [.tmp 4]) rfl (bad := []) (by kernel_rfl) _ _ (m := 101) rfl]
 obtain ⟨a, c, hv⟩ := hs.val
 subst hv
 obtain ⟨a2, k2, hv⟩ := ht.val
 subst hv
 unfold formV
 have x0 : Ext h ((h.push (.cells [.int .i64 c1, .slice a l.length c] 0)).push (.cells [.int .i64 c2, .slice a2 m.length k2] 0)) := ((Ext.refl h).push _).push _
 have hfm := form_ev c1 l _ _ (hs.ext x0) hl
 unfold formV at hfm
 simp (disch := first|exact dis|fail) only [go_sem, Int.reduceToNat, Nat.reduceMul, Nat.reduceAdd, Nat.reduceSub, ↓EU_rg]
 repeat refine WPo_ob ?_
 refine hfm.mono ?_
 rintro ⟨u0, h1⟩ ⟨ho0, hf0, x1⟩
 simp only [next_push] at ho0 hf0 x1
 have hn1 := x1.le
 simp only [next_push] at hn1
 have hA1 : h1.get h.next = .cells [.int .i64 c1, .slice a l.length c] 0 := by simp (disch := first|exact dis|fail) only [go_sem, Int.reduceToNat, Nat.reduceMul, Nat.reduceAdd, Nat.reduceSub, ↓EU_rg, x1.old]
 have hB1 : h1.get (h.next + 1) = .cells [.int .i64 c2, .slice a2 m.length k2] 0 := by simp (disch := first|exact dis|fail) only [go_sem, Int.reduceToNat, Nat.reduceMul, Nat.reduceAdd, Nat.reduceSub, ↓EU_rg, x1.old]
 have y1 : Ext h h1 := x0.trans x1
 have hfl := formF_len c1 l
 unfold faultsF
 generalize hdf : diffF c1 l c2 m = df
 generalize formF c1 l = F0 at *
 clear hfm x1 x0
 obtain ⟨av, kv, rfl⟩ := ho0.val
 simp (disch := first|exact dis|fail) only [go_sem, Int.reduceToNat, Nat.reduceMul, Nat.reduceAdd, Nat.reduceSub, ↓EU_rg]
 ((repeat refine WPo_ob ?_); (first | refine WPo_cond (fun b1 => ?_) (fun b1 => ?_) | refine WPo_gard (fun b1 => ?_) (fun b1 => ?_) | refine WPo_gardT (fun b1 => ?_) (fun b1 => ?_)) <;> (try simp only [Bool.not_eq_true', Bool.not_eq_false'] at b1))
 ·simp (disch := first|exact dis|fail) only [go_sem, Int.reduceToNat, Nat.reduceMul, Nat.reduceAdd, Nat.reduceSub, ↓EU_rg, b1]
  rw [if_pos trivial]
  exact ⟨ho0, hf0.mono (by omega), y1⟩
 ·have b1' := b1
  simp only [decide_eq_false_iff_not] at b1'
  have : F0 = [] := List.length_eq_zero_iff.1 (by omega)
  subst this
  rw [if_neg (by simp)]
  clear b1 b1' hfl
  have hls0 : ∀ h', Ext h h' → SL itemE 3 h' (.slice a l.length c) l := fun h' x => hs.ext x
  simp (disch := first|exact dis|fail) only [go_sem, Int.reduceToNat, Nat.reduceMul, Nat.reduceAdd, Nat.reduceSub, ↓EU_rg, hB1]
  repeat refine WPo_ob ?_
  refine (LP_rule (fun n st => ∃ (i : Nat) (tm : Fr) (h2 : Heap) (u : Value) (acc : List Flt), st = ⟨tm, h2, []⟩ ∧ n = m.length - i ∧ i ≤ m.length ∧ Fr.get tm 2 = ptr h.next 0 ∧ Fr.get tm 3 = ptr (h.next + 1) 0 ∧ Fr.get tm 5 = u ∧ Fr.get tm 21 = .slice a2 m.length k2 ∧ Fr.get tm 22 = .int .i64 m.length ∧ Fr.get tm 23 = .int .i64 i ∧ OW fltE 2 h2 u acc ∧ acc = (m.take i).flatMap (wantF l) ∧ Gr (.slice av 0 kv) h1 u h2)
   (fun q => ∃ tm h2 u, q.2 = ⟨tm, h2, []⟩ ∧ q.1 = .exit 0 ∧ Fr.get tm 2 = ptr h.next 0 ∧ Fr.get tm 3 = ptr (h.next + 1) 0 ∧ Fr.get tm 5 = u ∧ OW fltE 2 h2 u (m.flatMap (wantF l)) ∧ Gr (.slice av 0 kv) h1 u h2) ?_ m.length _ _ ?_ ?_).mono ?_
  ·rintro n _ ⟨i, tm, h2, u, acc, rfl, rfl, hi, g2, g3, g5, g21, g22, g23, hov, hacc, gr⟩
   have x2 : Ext h h2 := ⟨Nat.le_trans y1.le gr.le, fun j hj => (gr.old j (Nat.lt_of_lt_of_le hj y1.le) (fun q => by have := hf0 j q; omega)).trans (y1.old j hj)⟩
   have hA : h2.get h.next = .cells [.int .i64 c1, .slice a l.length c] 0 := (gr.old _ (by omega) (fun q => by have := hf0 _ q; omega)).trans hA1
   have hn2 := gr.le
   have hal : acc.length ≤ 2 * i := by
    have := flat_len (wantF l) 2 (wantF_len l) (m.take i)
    rw [List.length_take] at this
    rw [hacc]; omega
   obtain ⟨au, ku, rfl⟩ := hov.val
   simp (disch := first|exact dis|fail) only [go_sem, Int.reduceToNat, Nat.reduceMul, Nat.reduceAdd, Nat.reduceSub, ↓EU_rg, g2, g3, g5, g21, g22, g23]
   ((repeat refine WPo_ob ?_); (first | refine WPo_cond (fun b1 => ?_) (fun b1 => ?_) | refine WPo_gard (fun b1 => ?_) (fun b1 => ?_) | refine WPo_gardT (fun b1 => ?_) (fun b1 => ?_)) <;> (try simp only [Bool.not_eq_true', Bool.not_eq_false'] at b1))
   ·have b1' := b1
    simp only [decide_eq_true_eq] at b1'
    have hi' : i < m.length := by omega
    obtain ⟨x, hx⟩ : ∃ x, m[i]? = some x := ⟨_, List.getElem?_eq_getElem hi'⟩
    obtain ⟨b, o, c', e, hb', hrd, hr⟩ := (ht.ext x2).at hx rfl
    cases e
    have hwi : wrapF .i64 ((i : Int) + 1) = ((i + 1 : Nat) : Int) := by rw [wrap64 (by omega)]; omega
    have htk := take_flat (wantF l) hx
    have hfd := ofind_ev c1 l (.slice a l.length c) x.id (h2.push (.cells (itemE x) 0)) (hls0 _ (x2.push _)) hl
    unfold formV at hfd
    simp (disch := first|exact dis|fail) only [go_sem, Int.reduceToNat, Nat.reduceMul, Nat.reduceAdd, Nat.reduceSub, ↓EU_rg, g2, g3, g5, g21, g22, g23, hrd, hA]
    repeat refine WPo_ob ?_
    refine hfd.bind fun h3 x3 => ?_
    have hn3 := x3.le
    rw [next_push] at hn3
    have hX3 : h3.get h2.next = .cells (itemE x) 0 := (x3.old _ (by rw [next_push]; omega)).trans (get_push_new _ _)
    have y3 : Ext h2 h3 := ((Ext.refl h2).push _).trans x3
    have hov3 := (hov.ext y3).ext ((Ext.refl h3).push (.cells (itemE (fndR x.id l)) 0))
    have gr3 := (gr.ext y3).push (.cells (itemE (fndR x.id l)) 0)
    have hX3p : (h3.push (.cells (itemE (fndR x.id l)) 0)).get h2.next = .cells (itemE x) 0 := by rw [get_push_old _ (by omega)]; exact hX3
    have hY3p : (h3.push (.cells (itemE (fndR x.id l)) 0)).get h3.next = .cells (itemE (fndR x.id l)) 0 := get_push_new _ _
    have hnp : h3.next < (h3.push (.cells (itemE (fndR x.id l)) 0)).next := by rw [next_push]; omega
    generalize hyy : fndR x.id l = y at *
    generalize hhp : h3.push (.cells (itemE y) 0) = hp at *
    cases hq : l.any (byId x.id) with
    | false =>
     have hw : wantF l x = [⟨8, x.id⟩] := by unfold wantF; rw [hq]; rfl
     simp (disch := first|exact dis|fail) only [go_sem, Int.reduceToNat, Nat.reduceMul, Nat.reduceAdd, Nat.reduceSub, ↓EU_rg, g2, g3, g5, g21, g22, g23, hhp, hX3p, hY3p]
     repeat refine WPo_ob ?_
     have hlit := OW.lit fltE_len hp [(⟨8, x.id⟩ : Flt)]
     rw [List.flatMap_cons, List.flatMap_nil, List.append_nil] at hlit
     unfold fltE at hlit
     refine append_gr (l := acc) (l' := [(⟨8, x.id⟩ : Flt)]) fc_ap_122_122 fltE_len (by decide) fltE_scal (hov3.ext ((Ext.refl hp).push _)) hlit.sl (by simp only [List.length_append, List.length_cons, List.length_nil]; omega) (by simp only [List.length_append, List.length_cons, List.length_nil]; omega) fun v' h5 hov5 gr5 => ?_
     simp (disch := first|exact dis|fail) only [go_sem, Int.reduceToNat, Nat.reduceMul, Nat.reduceAdd, Nat.reduceSub, ↓EU_rg, g2, g3, g5, g21, g22, g23, hwi]
     exact ⟨_, by omega, i + 1, _, _, _, _, rfl, rfl, by omega, by simp (disch := first|exact dis|fail) only [go_sem, Int.reduceToNat, Nat.reduceMul, Nat.reduceAdd, Nat.reduceSub, ↓EU_rg, g2], by simp (disch := first|exact dis|fail) only [go_sem, Int.reduceToNat, Nat.reduceMul, Nat.reduceAdd, Nat.reduceSub, ↓EU_rg, g3], by simp (disch := first|exact dis|fail) only [go_sem, Int.reduceToNat, Nat.reduceMul, Nat.reduceAdd, Nat.reduceSub, ↓EU_rg], by simp (disch := first|exact dis|fail) only [go_sem, Int.reduceToNat, Nat.reduceMul, Nat.reduceAdd, Nat.reduceSub, ↓EU_rg, g21], by simp (disch := first|exact dis|fail) only [go_sem, Int.reduceToNat, Nat.reduceMul, Nat.reduceAdd, Nat.reduceSub, ↓EU_rg, g22], by simp (disch := first|exact dis|fail) only [go_sem, Int.reduceToNat, Nat.reduceMul, Nat.reduceAdd, Nat.reduceSub, ↓EU_rg], hov5, by rw [htk, hw, hacc], (gr3.push _).trans gr5⟩
    | true =>
     have hw : wantF l x = ifF (!decide (y.w = x.w)) ⟨10, x.id⟩ ++ ifF (!decide (y.lag = x.lag)) ⟨11, x.id⟩ := by unfold wantF; rw [hq, if_pos rfl, hyy]
     simp (disch := first|exact dis|fail) only [go_sem, Int.reduceToNat, Nat.reduceMul, Nat.reduceAdd, Nat.reduceSub, ↓EU_rg, g2, g3, g5, g21, g22, g23, hhp, hX3p, hY3p]
     refine WPo_ob ?_
     refine WPo.mono (Q := fun q => ∃ tm' h5 u5, q = (.normal, ⟨tm', h5, []⟩) ∧ OW fltE 2 h5 u5 (acc ++ ifF (!decide (y.w = x.w)) ⟨10, x.id⟩) ∧ Gr (.slice av 0 kv) h1 u5 h5 ∧ h5.get h2.next = .cells (itemE x) 0 ∧ h5.get h3.next = .cells (itemE y) 0 ∧ Fr.get tm' 2 = ptr h.next 0 ∧ Fr.get tm' 3 = ptr (h.next + 1) 0 ∧ Fr.get tm' 5 = u5 ∧ Fr.get tm' 7 = ptr h2.next 0 ∧ Fr.get tm' 8 = ptr h3.next 0 ∧ Fr.get tm' 21 = .slice (some ⟨b, o, none⟩) m.length k2 ∧ Fr.get tm' 22 = .int .i64 m.length ∧ Fr.get tm' 23 = .int .i64 i) ?_ ?_
     ·cases hd : decide (y.w = x.w) with
      | true =>
       simp (disch := first|exact dis|fail) only [go_sem, Int.reduceToNat, Nat.reduceMul, Nat.reduceAdd, Nat.reduceSub, ↓EU_rg]
       rw [ifF_f, List.append_nil]
       exact ⟨_, _, _, rfl, hov3, gr3, hX3p, hY3p, by simp (disch := first|exact dis|fail) only [go_sem, Int.reduceToNat, Nat.reduceMul, Nat.reduceAdd, Nat.reduceSub, ↓EU_rg, g2], by simp (disch := first|exact dis|fail) only [go_sem, Int.reduceToNat, Nat.reduceMul, Nat.reduceAdd, Nat.reduceSub, ↓EU_rg, g3], by simp (disch := first|exact dis|fail) only [go_sem, Int.reduceToNat, Nat.reduceMul, Nat.reduceAdd, Nat.reduceSub, ↓EU_rg, g5], by simp (disch := first|exact dis|fail) only [go_sem, Int.reduceToNat, Nat.reduceMul, Nat.reduceAdd, Nat.reduceSub, ↓EU_rg], by simp (disch := first|exact dis|fail) only [go_sem, Int.reduceToNat, Nat.reduceMul, Nat.reduceAdd, Nat.reduceSub, ↓EU_rg], by simp (disch := first|exact dis|fail) only [go_sem, Int.reduceToNat, Nat.reduceMul, Nat.reduceAdd, Nat.reduceSub, ↓EU_rg, g21], by simp (disch := first|exact dis|fail) only [go_sem, Int.reduceToNat, Nat.reduceMul, Nat.reduceAdd, Nat.reduceSub, ↓EU_rg, g22], by simp (disch := first|exact dis|fail) only [go_sem, Int.reduceToNat, Nat.reduceMul, Nat.reduceAdd, Nat.reduceSub, ↓EU_rg, g23]⟩
      | false =>
       simp (disch := first|exact dis|fail) only [go_sem, Int.reduceToNat, Nat.reduceMul, Nat.reduceAdd, Nat.reduceSub, ↓EU_rg, g2, g3, g5, g21, g22, g23, hhp, hX3p, hY3p]
       rw [ifF_t]
       repeat refine WPo_ob ?_
       have hlit := OW.lit fltE_len hp [(⟨10, x.id⟩ : Flt)]
       rw [List.flatMap_cons, List.flatMap_nil, List.append_nil] at hlit
       unfold fltE at hlit
       refine append_gr (l := acc) (l' := [(⟨10, x.id⟩ : Flt)]) fc_ap_122_122 fltE_len (by decide) fltE_scal (hov3.ext ((Ext.refl hp).push _)) hlit.sl (by simp only [List.length_append, List.length_cons, List.length_nil]; omega) (by simp only [List.length_append, List.length_cons, List.length_nil]; omega) fun v' h5 hov5 gr5 => ?_
       simp (disch := first|exact dis|fail) only [go_sem, Int.reduceToNat, Nat.reduceMul, Nat.reduceAdd, Nat.reduceSub, ↓EU_rg, g2, g3, g5, g21, g22, g23]
       exact ⟨_, _, _, rfl, hov5, (gr3.push _).trans gr5, by rw [gr5.old _ (by rw [next_push]; omega) (fun q => by have := hov.lt q; omega), get_push_old _ (by omega)]; exact hX3p, by rw [gr5.old _ (by rw [next_push]; omega) (fun q => by have := hov.lt q; omega), get_push_old _ (by omega)]; exact hY3p, by simp (disch := first|exact dis|fail) only [go_sem, Int.reduceToNat, Nat.reduceMul, Nat.reduceAdd, Nat.reduceSub, ↓EU_rg, g2], by simp (disch := first|exact dis|fail) only [go_sem, Int.reduceToNat, Nat.reduceMul, Nat.reduceAdd, Nat.reduceSub, ↓EU_rg, g3], by simp (disch := first|exact dis|fail) only [go_sem, Int.reduceToNat, Nat.reduceMul, Nat.reduceAdd, Nat.reduceSub, ↓EU_rg], by simp (disch := first|exact dis|fail) only [go_sem, Int.reduceToNat, Nat.reduceMul, Nat.reduceAdd, Nat.reduceSub, ↓EU_rg], by simp (disch := first|exact dis|fail) only [go_sem, Int.reduceToNat, Nat.reduceMul, Nat.reduceAdd, Nat.reduceSub, ↓EU_rg], by simp (disch := first|exact dis|fail) only [go_sem, Int.reduceToNat, Nat.reduceMul, Nat.reduceAdd, Nat.reduceSub, ↓EU_rg, g21], by simp (disch := first|exact dis|fail) only [go_sem, Int.reduceToNat, Nat.reduceMul, Nat.reduceAdd, Nat.reduceSub, ↓EU_rg, g22], by simp (disch := first|exact dis|fail) only [go_sem, Int.reduceToNat, Nat.reduceMul, Nat.reduceAdd, Nat.reduceSub, ↓EU_rg, g23]⟩
     ·have hl5 := ifF_len (!decide (y.w = x.w)) ⟨10, x.id⟩
      have hfin : acc ++ wantF l x = (acc ++ ifF (!decide (y.w = x.w)) ⟨10, x.id⟩) ++ ifF (!decide (y.lag = x.lag)) ⟨11, x.id⟩ := by rw [hw, List.append_assoc]
      generalize hA5 : acc ++ ifF (!decide (y.w = x.w)) ⟨10, x.id⟩ = A5 at *
      have hAl : A5.length ≤ 2 * i + 1 := by rw [← hA5, List.length_append]; omega
      clear g2 g3 g5 g21 g22 g23 hX3p hY3p hov3 gr3
      rintro _ ⟨tm5, h6, u5, rfl, hov6, gr6, hX6, hY6, g2, g3, g5, g7, g8, g21, g22, g23⟩
      obtain ⟨av6, kv6, rfl⟩ := hov6.val
      cases hd : decide (y.lag = x.lag) with
      | true =>
       simp (disch := first|exact dis|fail) only [go_sem, Int.reduceToNat, Nat.reduceMul, Nat.reduceAdd, Nat.reduceSub, ↓EU_rg, g2, g3, g5, g7, g8, g21, g22, g23, hX6, hY6, hd, hwi]
       rw [hd, Bool.not_true, ifF_f, List.append_nil] at hfin
       exact ⟨_, by omega, i + 1, _, _, _, _, rfl, rfl, by omega, by simp (disch := first|exact dis|fail) only [go_sem, Int.reduceToNat, Nat.reduceMul, Nat.reduceAdd, Nat.reduceSub, ↓EU_rg, g2], by simp (disch := first|exact dis|fail) only [go_sem, Int.reduceToNat, Nat.reduceMul, Nat.reduceAdd, Nat.reduceSub, ↓EU_rg, g3], by simp (disch := first|exact dis|fail) only [go_sem, Int.reduceToNat, Nat.reduceMul, Nat.reduceAdd, Nat.reduceSub, ↓EU_rg, g5], by simp (disch := first|exact dis|fail) only [go_sem, Int.reduceToNat, Nat.reduceMul, Nat.reduceAdd, Nat.reduceSub, ↓EU_rg, g21], by simp (disch := first|exact dis|fail) only [go_sem, Int.reduceToNat, Nat.reduceMul, Nat.reduceAdd, Nat.reduceSub, ↓EU_rg, g22], by simp (disch := first|exact dis|fail) only [go_sem, Int.reduceToNat, Nat.reduceMul, Nat.reduceAdd, Nat.reduceSub, ↓EU_rg], hov6, by rw [htk, ← hacc, hfin], gr6⟩
      | false =>
       simp (disch := first|exact dis|fail) only [go_sem, Int.reduceToNat, Nat.reduceMul, Nat.reduceAdd, Nat.reduceSub, ↓EU_rg, g2, g3, g5, g7, g8, g21, g22, g23, hX6, hY6, hd, hwi]
       rw [hd, Bool.not_false, ifF_t] at hfin
       repeat refine WPo_ob ?_
       have hlit := OW.lit fltE_len h6 [(⟨11, x.id⟩ : Flt)]
       rw [List.flatMap_cons, List.flatMap_nil, List.append_nil] at hlit
       unfold fltE at hlit
       refine append_gr (l := A5) (l' := [(⟨11, x.id⟩ : Flt)]) fc_ap_122_122 fltE_len (by decide) fltE_scal (hov6.ext ((Ext.refl h6).push _)) hlit.sl (by simp only [List.length_append, List.length_cons, List.length_nil]; omega) (by simp only [List.length_append, List.length_cons, List.length_nil]; omega) fun v' h5 hov5 gr5 => ?_
       simp (disch := first|exact dis|fail) only [go_sem, Int.reduceToNat, Nat.reduceMul, Nat.reduceAdd, Nat.reduceSub, ↓EU_rg, g2, g3, g5, g7, g8, g21, g22, g23, hX6, hY6, hd, hwi]
       exact ⟨_, by omega, i + 1, _, _, _, _, rfl, rfl, by omega, by simp (disch := first|exact dis|fail) only [go_sem, Int.reduceToNat, Nat.reduceMul, Nat.reduceAdd, Nat.reduceSub, ↓EU_rg, g2], by simp (disch := first|exact dis|fail) only [go_sem, Int.reduceToNat, Nat.reduceMul, Nat.reduceAdd, Nat.reduceSub, ↓EU_rg, g3], by simp (disch := first|exact dis|fail) only [go_sem, Int.reduceToNat, Nat.reduceMul, Nat.reduceAdd, Nat.reduceSub, ↓EU_rg], by simp (disch := first|exact dis|fail) only [go_sem, Int.reduceToNat, Nat.reduceMul, Nat.reduceAdd, Nat.reduceSub, ↓EU_rg, g21], by simp (disch := first|exact dis|fail) only [go_sem, Int.reduceToNat, Nat.reduceMul, Nat.reduceAdd, Nat.reduceSub, ↓EU_rg, g22], by simp (disch := first|exact dis|fail) only [go_sem, Int.reduceToNat, Nat.reduceMul, Nat.reduceAdd, Nat.reduceSub, ↓EU_rg], hov5, by rw [htk, ← hacc, hfin], (gr6.push _).trans gr5⟩
   ·simp only [decide_eq_false_iff_not] at b1
    have : i = m.length := by omega
    subst this
    rw [List.take_length] at hacc
    subst hacc
    simp (disch := first|exact dis|fail) only [go_sem, Int.reduceToNat, Nat.reduceMul, Nat.reduceAdd, Nat.reduceSub, ↓EU_rg]
    exact ⟨_, _, _, rfl, trivial, by simp (disch := first|exact dis|fail) only [go_sem, Int.reduceToNat, Nat.reduceMul, Nat.reduceAdd, Nat.reduceSub, ↓EU_rg, g2], by simp (disch := first|exact dis|fail) only [go_sem, Int.reduceToNat, Nat.reduceMul, Nat.reduceAdd, Nat.reduceSub, ↓EU_rg, g3], by simp (disch := first|exact dis|fail) only [go_sem, Int.reduceToNat, Nat.reduceMul, Nat.reduceAdd, Nat.reduceSub, ↓EU_rg, g5], hov, gr⟩
  ·exact ⟨0, _, _, _, [], rfl, rfl, by omega, by simp (disch := first|exact dis|fail) only [go_sem, Int.reduceToNat, Nat.reduceMul, Nat.reduceAdd, Nat.reduceSub, ↓EU_rg], by simp (disch := first|exact dis|fail) only [go_sem, Int.reduceToNat, Nat.reduceMul, Nat.reduceAdd, Nat.reduceSub, ↓EU_rg], by simp (disch := first|exact dis|fail) only [go_sem, Int.reduceToNat, Nat.reduceMul, Nat.reduceAdd, Nat.reduceSub, ↓EU_rg], by simp (disch := first|exact dis|fail) only [go_sem, Int.reduceToNat, Nat.reduceMul, Nat.reduceAdd, Nat.reduceSub, ↓EU_rg], by simp (disch := first|exact dis|fail) only [go_sem, Int.reduceToNat, Nat.reduceMul, Nat.reduceAdd, Nat.reduceSub, ↓EU_rg], by simp (disch := first|exact dis|fail) only [go_sem, Int.reduceToNat, Nat.reduceMul, Nat.reduceAdd, Nat.reduceSub, ↓EU_rg]; all_goals rfl, ho0, rfl, Gr.refl _ _⟩
  ·omega
  ·rintro ⟨q, _⟩ ⟨tm, h2, u, rfl, rfl, g2, g3, g5, hov, gr⟩
   have x2 : Ext h h2 := ⟨Nat.le_trans y1.le gr.le, fun j hj => (gr.old j (Nat.lt_of_lt_of_le hj y1.le) (fun q => by have := hf0 j q; omega)).trans (y1.old j hj)⟩
   have hA : h2.get h.next = .cells [.int .i64 c1, .slice a l.length c] 0 := (gr.old _ (by omega) (fun q => by have := hf0 _ q; omega)).trans hA1
   have hgl := flat_len (wantF l) 2 (wantF_len l) m
   generalize hW : m.flatMap (wantF l) = W at *
   obtain ⟨au, ku, rfl⟩ := hov.val
   simp (disch := first|exact dis|fail) only [go_sem, Int.reduceToNat, Nat.reduceMul, Nat.reduceAdd, Nat.reduceSub, ↓EU_rg, g2, g3, g5, hA]
   repeat refine WPo_ob ?_
   refine (LP_rule (fun n st => ∃ (i : Nat) (tm : Fr) (h2 : Heap) (u : Value) (acc : List Flt), st = ⟨tm, h2, []⟩ ∧ n = l.length - i ∧ i ≤ l.length ∧ Fr.get tm 2 = ptr h.next 0 ∧ Fr.get tm 3 = ptr (h.next + 1) 0 ∧ Fr.get tm 5 = u ∧ Fr.get tm 66 = .slice a l.length c ∧ Fr.get tm 67 = .int .i64 l.length ∧ Fr.get tm 68 = .int .i64 i ∧ OW fltE 2 h2 u acc ∧ acc = W ++ (l.take i).flatMap (gotF m) ∧ Gr (.slice av 0 kv) h1 u h2)
    (fun q => ∃ tm h2 u, q.2 = ⟨tm, h2, []⟩ ∧ q.1 = .exit 2 ∧ Fr.get tm 2 = ptr h.next 0 ∧ Fr.get tm 3 = ptr (h.next + 1) 0 ∧ Fr.get tm 5 = u ∧ OW fltE 2 h2 u (W ++ l.flatMap (gotF m)) ∧ Gr (.slice av 0 kv) h1 u h2) ?_ l.length _ _ ?_ ?_).mono ?_
   ·clear hov gr g2 g3 g5 x2 hA
    rintro n _ ⟨i, tm, h2, u, acc, rfl, rfl, hi, g2, g3, g5, g66, g67, g68, hov, hacc, gr⟩
    have x2 : Ext h h2 := ⟨Nat.le_trans y1.le gr.le, fun j hj => (gr.old j (Nat.lt_of_lt_of_le hj y1.le) (fun q => by have := hf0 j q; omega)).trans (y1.old j hj)⟩
    have hB : h2.get (h.next + 1) = .cells [.int .i64 c2, .slice a2 m.length k2] 0 := (gr.old _ (by omega) (fun q => by have := hf0 _ q; omega)).trans hB1
    have hn2 := gr.le
    have hal : acc.length ≤ 2 * m.length + i := by
     have := flat_len (gotF m) 1 (fun x => ifF_len _ _) (l.take i)
     rw [List.length_take] at this
     rw [hacc, List.length_append]; omega
    obtain ⟨au, ku, rfl⟩ := hov.val
    simp (disch := first|exact dis|fail) only [go_sem, Int.reduceToNat, Nat.reduceMul, Nat.reduceAdd, Nat.reduceSub, ↓EU_rg, g2, g3, g5, g66, g67, g68]
    ((repeat refine WPo_ob ?_); (first | refine WPo_cond (fun b1 => ?_) (fun b1 => ?_) | refine WPo_gard (fun b1 => ?_) (fun b1 => ?_) | refine WPo_gardT (fun b1 => ?_) (fun b1 => ?_)) <;> (try simp only [Bool.not_eq_true', Bool.not_eq_false'] at b1))
    ·have b1' := b1
     simp only [decide_eq_true_eq] at b1'
     have hi' : i < l.length := by omega
     obtain ⟨x, hx⟩ : ∃ x, l[i]? = some x := ⟨_, List.getElem?_eq_getElem hi'⟩
     obtain ⟨b, o, c', e, hb', hrd, hr⟩ := (hs.ext x2).at hx rfl
     cases e
     have hwi : wrapF .i64 ((i : Int) + 1) = ((i + 1 : Nat) : Int) := by rw [wrap64 (by omega)]; omega
     have htk := take_flat (gotF m) hx
     have hfd := ofind_ev c2 m (.slice a2 m.length k2) x.id (h2.push (.cells (itemE x) 0)) (ht.ext (x2.push _)) hm
     unfold formV at hfd
     simp (disch := first|exact dis|fail) only [go_sem, Int.reduceToNat, Nat.reduceMul, Nat.reduceAdd, Nat.reduceSub, ↓EU_rg, g2, g3, g5, g66, g67, g68, hrd, hB]
     repeat refine WPo_ob ?_
     refine hfd.bind fun h3 x3 => ?_
     have hn3 := x3.le
     rw [next_push] at hn3
     have hX3 : h3.get h2.next = .cells (itemE x) 0 := (x3.old _ (by rw [next_push]; omega)).trans (get_push_new _ _)
     have y3 : Ext h2 h3 := ((Ext.refl h2).push _).trans x3
     have hov3 := (hov.ext y3).ext ((Ext.refl h3).push (.cells (itemE (fndR x.id m)) 0))
     have gr3 := (gr.ext y3).push (.cells (itemE (fndR x.id m)) 0)
     have hX3p : (h3.push (.cells (itemE (fndR x.id m)) 0)).get h2.next = .cells (itemE x) 0 := by rw [get_push_old _ (by omega)]; exact hX3
     generalize hyy : fndR x.id m = y at *
     generalize hhp : h3.push (.cells (itemE y) 0) = hp at *
     cases hq : m.any (byId x.id) with
     | false =>
      have hw : gotF m x = [⟨9, x.id⟩] := by unfold gotF; rw [hq]; rfl
      simp (disch := first|exact dis|fail) only [go_sem, Int.reduceToNat, Nat.reduceMul, Nat.reduceAdd, Nat.reduceSub, ↓EU_rg, g2, g3, g5, g66, g67, g68, hhp, hX3p]
      repeat refine WPo_ob ?_
      have hlit := OW.lit fltE_len hp [(⟨9, x.id⟩ : Flt)]
      rw [List.flatMap_cons, List.flatMap_nil, List.append_nil] at hlit
      unfold fltE at hlit
      refine append_gr (l := acc) (l' := [(⟨9, x.id⟩ : Flt)]) fc_ap_122_122 fltE_len (by decide) fltE_scal (hov3.ext ((Ext.refl hp).push _)) hlit.sl (by simp only [List.length_append, List.length_cons, List.length_nil]; omega) (by simp only [List.length_append, List.length_cons, List.length_nil]; omega) fun v' h5 hov5 gr5 => ?_
      simp (disch := first|exact dis|fail) only [go_sem, Int.reduceToNat, Nat.reduceMul, Nat.reduceAdd, Nat.reduceSub, ↓EU_rg, g2, g3, g5, g66, g67, g68, hwi]
      exact ⟨_, by omega, i + 1, _, _, _, _, rfl, rfl, by omega, by simp (disch := first|exact dis|fail) only [go_sem, Int.reduceToNat, Nat.reduceMul, Nat.reduceAdd, Nat.reduceSub, ↓EU_rg, g2], by simp (disch := first|exact dis|fail) only [go_sem, Int.reduceToNat, Nat.reduceMul, Nat.reduceAdd, Nat.reduceSub, ↓EU_rg, g3], by simp (disch := first|exact dis|fail) only [go_sem, Int.reduceToNat, Nat.reduceMul, Nat.reduceAdd, Nat.reduceSub, ↓EU_rg], by simp (disch := first|exact dis|fail) only [go_sem, Int.reduceToNat, Nat.reduceMul, Nat.reduceAdd, Nat.reduceSub, ↓EU_rg, g66], by simp (disch := first|exact dis|fail) only [go_sem, Int.reduceToNat, Nat.reduceMul, Nat.reduceAdd, Nat.reduceSub, ↓EU_rg, g67], by simp (disch := first|exact dis|fail) only [go_sem, Int.reduceToNat, Nat.reduceMul, Nat.reduceAdd, Nat.reduceSub, ↓EU_rg], hov5, by rw [htk, hw, hacc, List.append_assoc], (gr3.push _).trans gr5⟩
     | true =>
      have hw : gotF m x = [] := by unfold gotF; rw [hq]; rfl
      simp (disch := first|exact dis|fail) only [go_sem, Int.reduceToNat, Nat.reduceMul, Nat.reduceAdd, Nat.reduceSub, ↓EU_rg, g2, g3, g5, g66, g67, g68, hhp, hX3p, hwi]
      exact ⟨_, by omega, i + 1, _, _, _, _, rfl, rfl, by omega, by simp (disch := first|exact dis|fail) only [go_sem, Int.reduceToNat, Nat.reduceMul, Nat.reduceAdd, Nat.reduceSub, ↓EU_rg, g2], by simp (disch := first|exact dis|fail) only [go_sem, Int.reduceToNat, Nat.reduceMul, Nat.reduceAdd, Nat.reduceSub, ↓EU_rg, g3], by simp (disch := first|exact dis|fail) only [go_sem, Int.reduceToNat, Nat.reduceMul, Nat.reduceAdd, Nat.reduceSub, ↓EU_rg, g5], by simp (disch := first|exact dis|fail) only [go_sem, Int.reduceToNat, Nat.reduceMul, Nat.reduceAdd, Nat.reduceSub, ↓EU_rg, g66], by simp (disch := first|exact dis|fail) only [go_sem, Int.reduceToNat, Nat.reduceMul, Nat.reduceAdd, Nat.reduceSub, ↓EU_rg, g67], by simp (disch := first|exact dis|fail) only [go_sem, Int.reduceToNat, Nat.reduceMul, Nat.reduceAdd, Nat.reduceSub, ↓EU_rg], hov3, by rw [htk, hw, hacc, List.append_nil], gr3⟩
    ·simp only [decide_eq_false_iff_not] at b1
     have : i = l.length := by omega
     subst this
     rw [List.take_length] at hacc
     subst hacc
     simp (disch := first|exact dis|fail) only [go_sem, Int.reduceToNat, Nat.reduceMul, Nat.reduceAdd, Nat.reduceSub, ↓EU_rg]
     exact ⟨_, _, _, rfl, trivial, by simp (disch := first|exact dis|fail) only [go_sem, Int.reduceToNat, Nat.reduceMul, Nat.reduceAdd, Nat.reduceSub, ↓EU_rg, g2], by simp (disch := first|exact dis|fail) only [go_sem, Int.reduceToNat, Nat.reduceMul, Nat.reduceAdd, Nat.reduceSub, ↓EU_rg, g3], by simp (disch := first|exact dis|fail) only [go_sem, Int.reduceToNat, Nat.reduceMul, Nat.reduceAdd, Nat.reduceSub, ↓EU_rg, g5], hov, gr⟩
   ·exact ⟨0, _, _, _, W, rfl, rfl, by omega, by simp (disch := first|exact dis|fail) only [go_sem, Int.reduceToNat, Nat.reduceMul, Nat.reduceAdd, Nat.reduceSub, ↓EU_rg, g2], by simp (disch := first|exact dis|fail) only [go_sem, Int.reduceToNat, Nat.reduceMul, Nat.reduceAdd, Nat.reduceSub, ↓EU_rg, g3], by simp (disch := first|exact dis|fail) only [go_sem, Int.reduceToNat, Nat.reduceMul, Nat.reduceAdd, Nat.reduceSub, ↓EU_rg, g5], by simp (disch := first|exact dis|fail) only [go_sem, Int.reduceToNat, Nat.reduceMul, Nat.reduceAdd, Nat.reduceSub, ↓EU_rg], by simp (disch := first|exact dis|fail) only [go_sem, Int.reduceToNat, Nat.reduceMul, Nat.reduceAdd, Nat.reduceSub, ↓EU_rg], by simp (disch := first|exact dis|fail) only [go_sem, Int.reduceToNat, Nat.reduceMul, Nat.reduceAdd, Nat.reduceSub, ↓EU_rg]; all_goals rfl, hov, by simp, gr⟩
   ·omega
   ·clear hov gr g2 g3 g5 x2 hA
    rintro ⟨q, _⟩ ⟨tm, h2, u, rfl, rfl, g2, g3, g5, hov, gr⟩
    have x2 : Ext h h2 := ⟨Nat.le_trans y1.le gr.le, fun j hj => (gr.old j (Nat.lt_of_lt_of_le hj y1.le) (fun q => by have := hf0 j q; omega)).trans (y1.old j hj)⟩
    have hA : h2.get h.next = .cells [.int .i64 c1, .slice a l.length c] 0 := (gr.old _ (by omega) (fun q => by have := hf0 _ q; omega)).trans hA1
    have hB : h2.get (h.next + 1) = .cells [.int .i64 c2, .slice a2 m.length k2] 0 := (gr.old _ (by omega) (fun q => by have := hf0 _ q; omega)).trans hB1
    have hgl2 := flat_len (gotF m) 1 (fun x => ifF_len _ _) l
    have hdf2 : df = (W ++ l.flatMap (gotF m)) ++ ifF (!decide (c1 = c2)) ⟨12, c1⟩ := by rw [← hdf, ← hW]; rfl
    have hGl : (W ++ l.flatMap (gotF m)).length ≤ 2 * m.length + l.length := by rw [List.length_append]; omega
    generalize hG : W ++ l.flatMap (gotF m) = G at *
    have hfu : Fresh (h.next + 1 + 1) u := gr.fresh hf0 (by omega)
    obtain ⟨au, ku, rfl⟩ := hov.val
    simp (disch := first|exact dis|fail) only [go_sem, Int.reduceToNat, Nat.reduceMul, Nat.reduceAdd, Nat.reduceSub, ↓EU_rg, g2, g3, g5, hA, hB]
    cases hd : decide (c1 = c2) with
    | true =>
     rw [hd, Bool.not_true, ifF_f, List.append_nil] at hdf2
     subst hdf2
     simp (disch := first|exact dis|fail) only [go_sem, Int.reduceToNat, Nat.reduceMul, Nat.reduceAdd, Nat.reduceSub, ↓EU_rg, hd, g5]
     repeat refine WPo_ob ?_
     refine (clip_ev df _ h2 hov (by omega)).mono ?_
     rintro ⟨w, h3⟩ ⟨rfl, how, hbw⟩
     obtain ⟨aw, kw, rfl⟩ := how.val
     simp (disch := first|exact dis|fail) only [go_sem, Int.reduceToNat, Nat.reduceMul, Nat.reduceAdd, Nat.reduceSub, ↓EU_rg]
     exact ⟨how, fun j hj => by have := hfu j (hbw j hj); omega, x2⟩
    | false =>
     rw [hd, Bool.not_false, ifF_t] at hdf2
     simp (disch := first|exact dis|fail) only [go_sem, Int.reduceToNat, Nat.reduceMul, Nat.reduceAdd, Nat.reduceSub, ↓EU_rg, hd, g2, g5, hA]
     repeat refine WPo_ob ?_
     have hlit := OW.lit fltE_len h2 [(⟨12, c1⟩ : Flt)]
     rw [List.flatMap_cons, List.flatMap_nil, List.append_nil] at hlit
     unfold fltE at hlit
     refine append_gr (l := G) (l' := [(⟨12, c1⟩ : Flt)]) fc_ap_122_122 fltE_len (by decide) fltE_scal (hov.ext ((Ext.refl h2).push _)) hlit.sl (by simp only [List.length_append, List.length_cons, List.length_nil]; omega) (by simp only [List.length_append, List.length_cons, List.length_nil]; omega) fun v' h5 hov5 gr5 => ?_
     rw [← hdf2] at hov5
     have hdl : df.length ≤ 2 * m.length + l.length + 1 := by rw [hdf2, List.length_append, List.length_singleton]; omega
     have gr6 := (gr.push (.cells [.int .i64 12, .int .i64 c1] 2)).trans gr5
     obtain ⟨a5, k5, rfl⟩ := hov5.val
     simp (disch := first|exact dis|fail) only [go_sem, Int.reduceToNat, Nat.reduceMul, Nat.reduceAdd, Nat.reduceSub, ↓EU_rg]
     repeat refine WPo_ob ?_
     refine (clip_ev df _ h5 hov5 (by omega)).mono ?_
     rintro ⟨w, h3⟩ ⟨rfl, how, hbw⟩
     obtain ⟨aw, kw, rfl⟩ := how.val
     simp (disch := first|exact dis|fail) only [go_sem, Int.reduceToNat, Nat.reduceMul, Nat.reduceAdd, Nat.reduceSub, ↓EU_rg]
     exact ⟨how, fun j hj => by have := (gr6.fresh hf0 (by omega)) j (hbw j hj); omega, ⟨Nat.le_trans y1.le gr6.le, fun j hj => (gr6.old j (Nat.lt_of_lt_of_le hj y1.le) (fun q => by have := hf0 j q; omega)).trans (y1.old j hj)⟩⟩
section
variable {cb qb lb mb : Nat} {v : Value} {tag base cur : Int} {l : List Pnt} {idle age : Int} {h : Heap}
theorem write_ev (q : CQ h cb qb lb mb v tag base cur l idle age) (hl : l.length < 800000) (hw : Near base l) : WPo (EF Tryz.prog O0 61 [ptr cb 0] h) fun q => Ext h q.2 ∧ (cgood tag cur (l.map (itP base)) = false → q.1 = .tuple ⟨[.slice none 0 1, .int .i64 1]⟩) ∧ (cgood tag cur (l.map (itP base)) = true → ∃ u, q.1 = .tuple ⟨[u, .int .i64 0]⟩ ∧ OW byteE 1 q.2 u (sealN (encF tag cur (l.map (itP base)))) ∧ Fresh h.next u) := by
 rw [EF_body (O := O0) (by kernel_rfl) Tryz.func61 rfl (rs := [.tmp 2, .tmp 3]) rfl (bad := []) (by kernel_rfl) _ _ (m := 11) rfl]
 simp (disch := first|exact dis|fail) only [go_sem, Int.reduceToNat, Nat.reduceMul, Nat.reduceAdd, Nat.reduceSub, ↓EU_rg, coreTag_ev q]
 repeat refine WPo_ob ?_
 refine (coreForm_ev q (by omega) hw).mono ?_
 rintro ⟨w, h1⟩ ⟨u, e, ou, fu, x1⟩
 simp only at e ou x1
 subst e
 unfold formV
 simp (disch := first|exact dis|fail) only [go_sem, Int.reduceToNat, Nat.reduceMul, Nat.reduceAdd, Nat.reduceSub, ↓EU_rg]
 repeat refine WPo_ob ?_
 refine (cput_ev tag cur (l.map (itP base)) u h1 ou.sl (by rw [List.length_map]; exact hl)).mono ?_
 rintro ⟨w, h2⟩ ⟨x2, k1, k2⟩
 simp only at x2 k1 k2
 cases hg : cgood tag cur (l.map (itP base)) with
 | false =>
  have e := k1 hg
  subst e
  simp (disch := first|exact dis|fail) only [go_sem, Int.reduceToNat, Nat.reduceMul, Nat.reduceAdd, Nat.reduceSub, ↓EU_rg]
  exact ⟨x1.trans x2, fun _ => trivial, fun h => (by cases h)⟩
 | true =>
  obtain ⟨b, e, ob, fb⟩ := k2 hg
  subst e
  simp (disch := first|exact dis|fail) only [go_sem, Int.reduceToNat, Nat.reduceMul, Nat.reduceAdd, Nat.reduceSub, ↓EU_rg]
  exact ⟨x1.trans x2, fun h => (by cases h), fun _ => ⟨_, rfl, ob, fb.mono x1.le⟩⟩
end
theorem make_ev (b : List UInt8) (s : Value) (tag base : Int) (h : Heap) (hs : SL byteE 1 h s b) (hl : b.length < 600000) (hlr : (readR b).2.2.2.1.length < 900000) :
  WPo (EF Tryz.prog O0 62 [s, .int .i64 tag, .int .i64 base] h) fun q => Ext h q.2 ∧ (tgood tag = false → q.1 = .tuple ⟨[nilP, .int .i64 1]⟩) ∧ (tgood tag = true → (readR b).2.2.2.2 ≠ 0 → q.1 = .tuple ⟨[nilP, .int .i64 (readR b).2.2.2.2]⟩) ∧ (tgood tag = true → (readR b).2.2.2.2 = 0 → bgood base = true → goodF (readR b).2.2.1 (readR b).2.2.2.1 = true → ∃ qb lb v, q.1 = .tuple ⟨[ptr qb 0, .int .i64 0]⟩ ∧ PQ q.2 qb lb v tag base (readR b).2.2.1 ((readR b).2.2.2.1.map (ptI base)) ∧ h.next ≤ qb ∧ h.next ≤ lb ∧ Fresh h.next v) := by
 rw [EF_body (O := O0) (by kernel_rfl) Tryz.func62 rfl (rs := [.tmp 6, .tmp 7]) rfl (bad := []) (by kernel_rfl) _ _ (m := 29) rfl]
 cases ht : tgood tag with
 | false =>
  simp (disch := first|exact dis|fail) only [go_sem, Int.reduceToNat, Nat.reduceMul, Nat.reduceAdd, Nat.reduceSub, ↓EU_rg, polGood_ev, ht]
  exact ⟨Ext.refl _, fun _ => rfl, fun h => (by cases h), fun h => (by cases h)⟩
 | true =>
  simp (disch := first|exact dis|fail) only [go_sem, Int.reduceToNat, Nat.reduceMul, Nat.reduceAdd, Nat.reduceSub, ↓EU_rg, polGood_ev, ht]
  repeat refine WPo_ob ?_
  refine (eread_ev b s h hs hl).mono ?_
  rintro ⟨w, h1⟩ ⟨u, e, ou, fu, x1⟩
  simp only at e ou x1
  subst e
  revert ou hlr
  generalize (readR b).2.2.2.2 = er
  generalize (readR b).2.2.2.1 = rl
  generalize (readR b).2.2.1 = rc
  generalize (readR b).2.1 = rt
  intro hlr ou
  obtain ⟨au, ku, hu⟩ := ou.val
  subst hu
  unfold formV
  simp (disch := first|exact dis|fail) only [go_sem, Int.reduceToNat, Nat.reduceMul, Nat.reduceAdd, Nat.reduceSub, ↓EU_rg]
  ((repeat refine WPo_ob ?_); (first | refine WPo_cond (fun b1 => ?_) (fun b1 => ?_) | refine WPo_gard (fun b1 => ?_) (fun b1 => ?_) | refine WPo_gardT (fun b1 => ?_) (fun b1 => ?_)) <;> (try simp only [Bool.not_eq_true', Bool.not_eq_false'] at b1))
  ·simp only [decide_eq_false_iff_not] at b1
   simp (disch := first|exact dis|fail) only [go_sem, Int.reduceToNat, Nat.reduceMul, Nat.reduceAdd, Nat.reduceSub, ↓EU_rg]
   refine ⟨by repeat (first | exact Ext.refl _ | assumption | refine Ext.push ?_ _ | refine Ext.set ?_ _ _ (by first | omega | (simp only [next_push, next_set]; omega))), fun h => (by cases h), fun _ _ => rfl, fun _ h => absurd h b1⟩
  ·simp only [decide_eq_true_eq] at b1
   subst b1
   simp (disch := first|exact dis|fail) only [go_sem, Int.reduceToNat, Nat.reduceMul, Nat.reduceAdd, Nat.reduceSub, ↓EU_rg]
   repeat refine WPo_ob ?_
   refine (polSeed_ev tag base rc rl (.slice au rl.length ku) _ (ou.sl.ext ?_) hlr).mono ?_
   ·exact (Ext.refl h1).push _
   rintro ⟨w, h2⟩ ⟨x2, k⟩
   simp only at k x2
   cases hg : (tgood tag && (bgood base && goodF rc rl)) with
   | false =>
    rw [hg, if_neg (by decide)] at k
    subst k
    unfold nilP
    simp (disch := first|exact dis|fail) only [go_sem, Int.reduceToNat, Nat.reduceMul, Nat.reduceAdd, Nat.reduceSub, ↓EU_rg]
    refine ⟨x1.trans (((Ext.refl h1).push _).trans x2), fun h => (by cases h), fun _ h => absurd rfl h, fun _ _ h1 h2 => ?_⟩
    rw [ht, h1, h2] at hg; cases hg
   | true =>
    rw [hg, if_pos rfl] at k
    obtain ⟨qb, lb, v, e, pq, hqb, hlb, fv⟩ := k
    subst e
    have := x1.le
    simp only [next_push] at hqb hlb fv
    simp (disch := first|exact dis|fail) only [go_sem, Int.reduceToNat, Nat.reduceMul, Nat.reduceAdd, Nat.reduceSub, ↓EU_rg]
    exact ⟨x1.trans (((Ext.refl h1).push _).trans x2), fun h => (by cases h), fun _ h => absurd rfl h, fun _ _ _ _ => ⟨qb, lb, v, rfl, pq, by omega, by omega, fv.mono (by omega)⟩⟩
theorem fits_ev {cb qb lb mb : Nat} {v : Value} {tag base cur : Int} {l : List Pnt} {idle age : Int} {h : Heap} {qb2 lb2 : Nat} {v2 : Value} {tag2 base2 cur2 : Int} {l2 : List Pnt} (q : CQ h cb qb lb mb v tag base cur l idle age) (q2 : PQ h qb2 lb2 v2 tag2 base2 cur2 l2) (hl : l.length < 800000) (hw : Near base l) (hl2 : l2.length < 800000) (hw2 : Near base2 l2) :
  WPo (EF Tryz.prog O0 63 [ptr cb 0, ptr qb2 0] h) fun q => OW fltE 2 q.2 q.1 (faultsF cur2 (l2.map (itP base2)) cur (l.map (itP base))) ∧ Fresh h.next q.1 ∧ Ext h q.2 := by
 have g2 := q2.gb
 rw [EF_body (O := O0) (by kernel_rfl) Tryz.func63 rfl (rs := [.tmp 4]) rfl (bad := []) (by kernel_rfl) _ _ (m := 13) rfl]
 simp (disch := first|exact dis|fail) only [go_sem, Int.reduceToNat, Nat.reduceMul, Nat.reduceAdd, Nat.reduceSub, ↓EU_rg, g2]
 repeat refine WPo_ob ?_
 refine (formI_ev tag2 base2 cur2 l2 v2 lb2 h q2.tg q2.lq (by omega) hw2).mono ?_
 rintro ⟨w, h1⟩ ⟨u2, e, ou2, fu2, x1⟩
 simp only at e ou2 x1
 subst e
 unfold formV
 simp (disch := first|exact dis|fail) only [go_sem, Int.reduceToNat, Nat.reduceMul, Nat.reduceAdd, Nat.reduceSub, ↓EU_rg]
 repeat refine WPo_ob ?_
 refine (coreForm_ev (q.ext x1) (by omega) hw).mono ?_
 rintro ⟨w, h2⟩ ⟨u, e, ou, fu, x2⟩
 simp only at e ou x2
 subst e
 unfold formV
 simp (disch := first|exact dis|fail) only [go_sem, Int.reduceToNat, Nat.reduceMul, Nat.reduceAdd, Nat.reduceSub, ↓EU_rg]
 repeat refine WPo_ob ?_
 refine (faults_ev cur2 cur (l2.map (itP base2)) (l.map (itP base)) u2 u h2 (ou2.ext x2).sl ou.sl (by rw [List.length_map]; omega) (by rw [List.length_map]; omega)).mono ?_
 rintro ⟨w, h3⟩ ⟨o3, f3, x3⟩
 simp only at o3 x3 f3
 obtain ⟨a3, k3, e3⟩ := o3.val
 subst e3
 simp (disch := first|exact dis|fail) only [go_sem, Int.reduceToNat, Nat.reduceMul, Nat.reduceAdd, Nat.reduceSub, ↓EU_rg]
 exact ⟨o3, f3.mono (Nat.le_trans x1.le x2.le), (x1.trans x2).trans x3⟩
@[go_sem] theorem veq_ifp (t : TypeId) (b : Nat) : veq (.iface t (ptr b 0)) (.iface t (ptr b 0)) = true := by
 show (Nat.beq t t && (Nat.beq b b && Nat.beq 0 0)) = true
 rw [beq_nat rfl, beq_nat rfl]
 rfl
@[go_sem] theorem pq_nil (b : Nat) (x y : Operand) : evBin Tryz.prog .eql 71 x y (ptr b 0) (.pointer none) = some (.bool false) := by kernel_rfl
@[go_sem] theorem cq_nil (b : Nat) (x y : Operand) : evBin Tryz.prog .eql 26 x y (ptr b 0) (.pointer none) = some (.bool false) := by kernel_rfl
@[go_sem] theorem cq_nil' (x y : Operand) : evBin Tryz.prog .eql 26 x y (.pointer none) (.pointer none) = some (.bool true) := by kernel_rfl
theorem change_ev {cb qb lb mb : Nat} {v : Value} {tag base cur : Int} {l : List Pnt} {idle age : Int} {h : Heap} {qb2 lb2 : Nat} {v2 : Value} {tag2 base2 cur2 : Int} {l2 : List Pnt} (q : CQ h cb qb lb mb v tag base cur l idle age) (q2 : PQ h qb2 lb2 v2 tag2 base2 cur2 l2) (hl : l.length < 800000) (hw : Near base l) (hl2 : l2.length < 800000) (hw2 : Near base2 l2) :
  WPo (EF Tryz.prog O0 64 [ptr cb 0, ptr qb2 0] h) fun r => if cur2 = cur ∧ l2.map (itP base2) = l.map (itP base) then r.1 = .int .i64 0 ∧ Mod (fun i => i = cb) h r.2 ∧ r.2.get cb = .cells [ptr qb2 0, .map (some mb), .int .i64 idle, .int .i64 age] 0 else r.1 = .int .i64 4 ∧ Ext h r.2 := by
 have g2 := q2.gb
 have g1 := q.gb
 have g3 := q.pq.gb
 rw [EF_body (O := O0) (by kernel_rfl) Tryz.func64 rfl (rs := [.tmp 4]) rfl (bad := [3]) (by kernel_rfl) _ _ (m := 28) rfl]
 simp (disch := first|exact dis|fail) only [go_sem, Int.reduceToNat, Nat.reduceMul, Nat.reduceAdd, Nat.reduceSub]
 (first | rw [EU_region] | rw [EU_draw _ _ rfl]); simp (disch := first|exact dis|fail) only [go_sem, Int.reduceToNat, Nat.reduceMul, Nat.reduceAdd, Nat.reduceSub]
 simp (disch := first|exact dis|fail) only [go_sem, Int.reduceToNat, Nat.reduceMul, Nat.reduceAdd, Nat.reduceSub, ↓EU_rg]
 rw [EU_bad _ _ rfl, EC_tab (tab := [(false, none), (false, none), (false, none), (false, none), (true, none), (false, none), (false, none), (false, none), (false, (some (0, 1))), (false, none), (false, none), (false, (some (0, 1))), (true, none), (true, none), (false, none), (false, none)]) (by kernel_rfl)]
 simp (disch := first|exact dis|fail) only [go_sem, Int.reduceToNat, Nat.reduceMul, Nat.reduceAdd, Nat.reduceSub, ↓EU_rg, g2]
 repeat refine WPo_ob ?_
 refine (formI_ev tag2 base2 cur2 l2 v2 lb2 h q2.tg q2.lq (by omega) hw2).mono ?_
 rintro ⟨w, h1⟩ ⟨u2, e, ou2, fu2, x1⟩
 simp only at e ou2 x1
 subst e
 unfold formV
 have q' := q.ext x1
 have g1' := q'.gb
 have g3' := q'.pq.gb
 have g2' := (x1.old qb2 q2.lt).trans g2
 simp (disch := first|exact dis|fail) only [go_sem, Int.reduceToNat, Nat.reduceMul, Nat.reduceAdd, Nat.reduceSub, ↓EU_rg, g1', g3', g2']
 repeat refine WPo_ob ?_
 refine (formI_ev tag base cur l v lb h1 q'.pq.tg q'.pq.lq (by omega) hw).mono ?_
 rintro ⟨w, h2⟩ ⟨u, e, ou, fu, x2⟩
 simp only at e ou x2
 subst e
 unfold formV
 have q'' := q'.ext x2
 have g1'' := q''.gb
 have g3'' := q''.pq.gb
 have g2'' := (x2.old qb2 (Nat.lt_of_lt_of_le q2.lt x1.le)).trans g2'
 simp (disch := first|exact dis|fail) only [go_sem, Int.reduceToNat, Nat.reduceMul, Nat.reduceAdd, Nat.reduceSub, ↓EU_rg, g1, g3, g2, g1', g3', g2', g1'', g3'', g2'']
 repeat refine WPo_ob ?_
 refine (same_ev cur2 cur (l2.map (itP base2)) (l.map (itP base)) u2 u h2 (ou2.ext x2).sl ou.sl (by rw [List.length_map]; omega)).bind fun h3 x3 => ?_
 have q3 := q''.ext x3
 have g13 := q3.gb
 have g33 := q3.pq.gb
 have g23 := (x3.old qb2 (Nat.lt_of_lt_of_le q2.lt (Nat.le_trans x1.le x2.le))).trans g2''
 have xa := (x1.trans x2).trans x3
 obtain ⟨a1, k1, e1⟩ := ou2.val
 subst e1
 obtain ⟨a2, k2, e2⟩ := ou.val
 subst e2
 simp (disch := first|exact dis|fail) only [go_sem, Int.reduceToNat, Nat.reduceMul, Nat.reduceAdd, Nat.reduceSub, ↓EU_rg, g1, g3, g2, g1', g3', g2', g1'', g3'', g2'', g13, g33, g23]
 by_cases hc : cur2 = cur ∧ l2.map (itP base2) = l.map (itP base)
 ·have hd : (decide (cur2 = cur) && decide (l2.map (itP base2) = l.map (itP base))) = true := by rw [decide_eq_true hc.1, decide_eq_true hc.2]; rfl
  simp (disch := first|exact dis|fail) only [go_sem, Int.reduceToNat, Nat.reduceMul, Nat.reduceAdd, Nat.reduceSub, ↓EU_rg, if_pos hc, hd, g13]
  exact ⟨trivial, (xa.mod _).set _ _ fun _ => rfl, trivial⟩
 ·have hd : (decide (cur2 = cur) && decide (l2.map (itP base2) = l.map (itP base))) = false := by
   rw [Bool.and_eq_false_iff, decide_eq_false_iff_not, decide_eq_false_iff_not]
   by_cases q : cur2 = cur
   ·exact .inr fun e => hc ⟨q, e⟩
   ·exact .inl q
  simp (disch := first|exact dis|fail) only [go_sem, Int.reduceToNat, Nat.reduceMul, Nat.reduceAdd, Nat.reduceSub, ↓EU_rg, if_neg hc, hd, g13]
  exact ⟨trivial, xa⟩
noncomputable def tryL (cb : Nat) (tag base st why age : Int) (bv qv : Value) (f : Nat → Bool) : List Value :=
 [ptr cb 0, .int .i64 tag, .int .i64 base, .int .i64 st, .int .i64 why, .int .i64 age, bv, qv, .bool (f 0), .bool (f 1), .bool (f 2), .bool (f 3), .bool (f 4), .bool (f 5)]
section
variable {cb qb lb mb tb : Nat} {v : Value} {tag base cur : Int} {l : List Pnt} {idle cage : Int} {h : Heap} {tg bs st why age : Int} {bv qv : Value} {f : Nat → Bool}
theorem next1_ev (q : CQ h cb qb lb mb v tag base cur l idle cage) (ht : h.get tb = .cells (tryL cb tg bs st why age bv qv f) 0) :
  WPo (EF Tryz.prog O0 35 [ptr tb 0, .int .i64 1] h) fun r => if f 1 then r = (.int .i64 13, h) else r = (.int .i64 0, h.set tb (.cells (tryL cb tg bs st why cage bv qv f) 0)) := by
 have hA := coreAge_ev q
 unfold tryL at *
 rw [EF_body (O := O0) (by kernel_rfl) Tryz.func35 rfl (rs := [.tmp 4]) rfl (bad := [1]) (by kernel_rfl) _ _ (m := 95) rfl]
 simp (disch := first|exact dis|fail) only [go_sem, Int.reduceToNat, Nat.reduceMul, Nat.reduceAdd, Nat.reduceSub]
 (first | rw [EU_region] | rw [EU_draw _ _ rfl]); simp (disch := first|exact dis|fail) only [go_sem, Int.reduceToNat, Nat.reduceMul, Nat.reduceAdd, Nat.reduceSub]
 rw [EU_bad _ _ rfl, EC_tab (tab := [(false, none), (false, none), (false, none), (false, none), (false, none), (false, none), (false, none), (true, none), (false, none), (false, none), (false, none), (false, (some (0, 1))), (false, none), (false, none)]) (by kernel_rfl)]
 simp (disch := first|exact dis|fail) only [go_sem, Int.reduceToNat, Nat.reduceMul, Nat.reduceAdd, Nat.reduceSub, ↓EU_rg, ht, Int.reduceLT, Int.reduceEq, hA]
 cases hf : f 1 with
 | true =>
  rw [hf] at ht
  simp (disch := first|exact dis|fail) only [go_sem, Int.reduceToNat, Nat.reduceMul, Nat.reduceAdd, Nat.reduceSub, ↓EU_rg, ht, Int.reduceLT, Int.reduceEq, hA, if_true]
 | false =>
  rw [hf] at ht
  simp (disch := first|exact dis|fail) only [go_sem, Int.reduceToNat, Nat.reduceMul, Nat.reduceAdd, Nat.reduceSub, ↓EU_rg, ht, Int.reduceLT, Int.reduceEq, hA, if_false, Bool.false_eq_true]
theorem stale2_ev (q : CQ h cb qb lb mb v tag base cur l idle cage) (ht : h.get tb = .cells (tryL cb tg bs st why age bv qv f) 0) (hne : cage ≠ age) :
  EF Tryz.prog O0 35 [ptr tb 0, .int .i64 2] h = some (.int .i64 12, h) := by
 have : WPo (EF Tryz.prog O0 35 [ptr tb 0, .int .i64 2] h) fun r => r = (.int .i64 12, h) := by
  have hA := coreAge_ev q
  have hd : decide (cage = age) = false := decide_eq_false hne
  unfold tryL at *
  rw [EF_body (O := O0) (by kernel_rfl) Tryz.func35 rfl (rs := [.tmp 4]) rfl (bad := [1]) (by kernel_rfl) _ _ (m := 95) rfl]
  simp (disch := first|exact dis|fail) only [go_sem, Int.reduceToNat, Nat.reduceMul, Nat.reduceAdd, Nat.reduceSub]
  (first | rw [EU_region] | rw [EU_draw _ _ rfl]); simp (disch := first|exact dis|fail) only [go_sem, Int.reduceToNat, Nat.reduceMul, Nat.reduceAdd, Nat.reduceSub]
  rw [EU_bad _ _ rfl, EC_tab (tab := [(false, none), (false, none), (false, none), (false, none), (false, none), (false, none), (false, none), (true, none), (false, none), (false, none), (false, none), (false, (some (0, 1))), (false, none), (false, none)]) (by kernel_rfl)]
  simp (disch := first|exact dis|fail) only [go_sem, Int.reduceToNat, Nat.reduceMul, Nat.reduceAdd, Nat.reduceSub, ↓EU_rg, ht, Int.reduceLT, Int.reduceEq, hA, hd]
 obtain ⟨r, e, rfl⟩ := this
 exact e
theorem forced2_ev (q : CQ h cb qb lb mb v tag base cur l idle cage) (ht : h.get tb = .cells (tryL cb tg bs st why cage bv qv f) 0) (hf : f 2 = true) :
  EF Tryz.prog O0 35 [ptr tb 0, .int .i64 2] h = some (.int .i64 13, h) := by
 have : WPo (EF Tryz.prog O0 35 [ptr tb 0, .int .i64 2] h) fun r => r = (.int .i64 13, h) := by
  have hA := coreAge_ev q
  unfold tryL at *
  rw [hf] at ht
  rw [EF_body (O := O0) (by kernel_rfl) Tryz.func35 rfl (rs := [.tmp 4]) rfl (bad := [1]) (by kernel_rfl) _ _ (m := 95) rfl]
  simp (disch := first|exact dis|fail) only [go_sem, Int.reduceToNat, Nat.reduceMul, Nat.reduceAdd, Nat.reduceSub]
  (first | rw [EU_region] | rw [EU_draw _ _ rfl]); simp (disch := first|exact dis|fail) only [go_sem, Int.reduceToNat, Nat.reduceMul, Nat.reduceAdd, Nat.reduceSub]
  rw [EU_bad _ _ rfl, EC_tab (tab := [(false, none), (false, none), (false, none), (false, none), (false, none), (false, none), (false, none), (true, none), (false, none), (false, none), (false, none), (false, (some (0, 1))), (false, none), (false, none)]) (by kernel_rfl)]
  simp (disch := first|exact dis|fail) only [go_sem, Int.reduceToNat, Nat.reduceMul, Nat.reduceAdd, Nat.reduceSub, ↓EU_rg, ht, Int.reduceLT, Int.reduceEq, hA, decide_true]
 obtain ⟨r, e, rfl⟩ := this
 exact e
theorem stale3_ev (q : CQ h cb qb lb mb v tag base cur l idle cage) (ht : h.get tb = .cells (tryL cb tg bs st why age bv qv f) 0) (hne : cage ≠ age) :
  EF Tryz.prog O0 35 [ptr tb 0, .int .i64 3] h = some (.int .i64 12, h) := by
 have : WPo (EF Tryz.prog O0 35 [ptr tb 0, .int .i64 3] h) fun r => r = (.int .i64 12, h) := by
  have hA := coreAge_ev q
  have hd : decide (cage = age) = false := decide_eq_false hne
  unfold tryL at *
  rw [EF_body (O := O0) (by kernel_rfl) Tryz.func35 rfl (rs := [.tmp 4]) rfl (bad := [1]) (by kernel_rfl) _ _ (m := 95) rfl]
  simp (disch := first|exact dis|fail) only [go_sem, Int.reduceToNat, Nat.reduceMul, Nat.reduceAdd, Nat.reduceSub]
  (first | rw [EU_region] | rw [EU_draw _ _ rfl]); simp (disch := first|exact dis|fail) only [go_sem, Int.reduceToNat, Nat.reduceMul, Nat.reduceAdd, Nat.reduceSub]
  rw [EU_bad _ _ rfl, EC_tab (tab := [(false, none), (false, none), (false, none), (false, none), (false, none), (false, none), (false, none), (true, none), (false, none), (false, none), (false, none), (false, (some (0, 1))), (false, none), (false, none)]) (by kernel_rfl)]
  simp (disch := first|exact dis|fail) only [go_sem, Int.reduceToNat, Nat.reduceMul, Nat.reduceAdd, Nat.reduceSub, ↓EU_rg, ht, Int.reduceLT, Int.reduceEq, hA, hd]
 obtain ⟨r, e, rfl⟩ := this
 exact e
theorem forced3_ev (q : CQ h cb qb lb mb v tag base cur l idle cage) (ht : h.get tb = .cells (tryL cb tg bs st why cage bv qv f) 0) (hf : f 3 = true) :
  EF Tryz.prog O0 35 [ptr tb 0, .int .i64 3] h = some (.int .i64 13, h) := by
 have : WPo (EF Tryz.prog O0 35 [ptr tb 0, .int .i64 3] h) fun r => r = (.int .i64 13, h) := by
  have hA := coreAge_ev q
  unfold tryL at *
  rw [hf] at ht
  rw [EF_body (O := O0) (by kernel_rfl) Tryz.func35 rfl (rs := [.tmp 4]) rfl (bad := [1]) (by kernel_rfl) _ _ (m := 95) rfl]
  simp (disch := first|exact dis|fail) only [go_sem, Int.reduceToNat, Nat.reduceMul, Nat.reduceAdd, Nat.reduceSub]
  (first | rw [EU_region] | rw [EU_draw _ _ rfl]); simp (disch := first|exact dis|fail) only [go_sem, Int.reduceToNat, Nat.reduceMul, Nat.reduceAdd, Nat.reduceSub]
  rw [EU_bad _ _ rfl, EC_tab (tab := [(false, none), (false, none), (false, none), (false, none), (false, none), (false, none), (false, none), (true, none), (false, none), (false, none), (false, none), (false, (some (0, 1))), (false, none), (false, none)]) (by kernel_rfl)]
  simp (disch := first|exact dis|fail) only [go_sem, Int.reduceToNat, Nat.reduceMul, Nat.reduceAdd, Nat.reduceSub, ↓EU_rg, ht, Int.reduceLT, Int.reduceEq, hA, decide_true]
 obtain ⟨r, e, rfl⟩ := this
 exact e
theorem stale4_ev (q : CQ h cb qb lb mb v tag base cur l idle cage) (ht : h.get tb = .cells (tryL cb tg bs st why age bv qv f) 0) (hne : cage ≠ age) :
  EF Tryz.prog O0 35 [ptr tb 0, .int .i64 4] h = some (.int .i64 12, h) := by
 have : WPo (EF Tryz.prog O0 35 [ptr tb 0, .int .i64 4] h) fun r => r = (.int .i64 12, h) := by
  have hA := coreAge_ev q
  have hd : decide (cage = age) = false := decide_eq_false hne
  unfold tryL at *
  rw [EF_body (O := O0) (by kernel_rfl) Tryz.func35 rfl (rs := [.tmp 4]) rfl (bad := [1]) (by kernel_rfl) _ _ (m := 95) rfl]
  simp (disch := first|exact dis|fail) only [go_sem, Int.reduceToNat, Nat.reduceMul, Nat.reduceAdd, Nat.reduceSub]
  (first | rw [EU_region] | rw [EU_draw _ _ rfl]); simp (disch := first|exact dis|fail) only [go_sem, Int.reduceToNat, Nat.reduceMul, Nat.reduceAdd, Nat.reduceSub]
  rw [EU_bad _ _ rfl, EC_tab (tab := [(false, none), (false, none), (false, none), (false, none), (false, none), (false, none), (false, none), (true, none), (false, none), (false, none), (false, none), (false, (some (0, 1))), (false, none), (false, none)]) (by kernel_rfl)]
  simp (disch := first|exact dis|fail) only [go_sem, Int.reduceToNat, Nat.reduceMul, Nat.reduceAdd, Nat.reduceSub, ↓EU_rg, ht, Int.reduceLT, Int.reduceEq, hA, hd]
 obtain ⟨r, e, rfl⟩ := this
 exact e
theorem forced4_ev (q : CQ h cb qb lb mb v tag base cur l idle cage) (ht : h.get tb = .cells (tryL cb tg bs st why cage bv qv f) 0) (hf : f 4 = true) :
  EF Tryz.prog O0 35 [ptr tb 0, .int .i64 4] h = some (.int .i64 13, h) := by
 have : WPo (EF Tryz.prog O0 35 [ptr tb 0, .int .i64 4] h) fun r => r = (.int .i64 13, h) := by
  have hA := coreAge_ev q
  unfold tryL at *
  rw [hf] at ht
  rw [EF_body (O := O0) (by kernel_rfl) Tryz.func35 rfl (rs := [.tmp 4]) rfl (bad := [1]) (by kernel_rfl) _ _ (m := 95) rfl]
  simp (disch := first|exact dis|fail) only [go_sem, Int.reduceToNat, Nat.reduceMul, Nat.reduceAdd, Nat.reduceSub]
  (first | rw [EU_region] | rw [EU_draw _ _ rfl]); simp (disch := first|exact dis|fail) only [go_sem, Int.reduceToNat, Nat.reduceMul, Nat.reduceAdd, Nat.reduceSub]
  rw [EU_bad _ _ rfl, EC_tab (tab := [(false, none), (false, none), (false, none), (false, none), (false, none), (false, none), (false, none), (true, none), (false, none), (false, none), (false, none), (false, (some (0, 1))), (false, none), (false, none)]) (by kernel_rfl)]
  simp (disch := first|exact dis|fail) only [go_sem, Int.reduceToNat, Nat.reduceMul, Nat.reduceAdd, Nat.reduceSub, ↓EU_rg, ht, Int.reduceLT, Int.reduceEq, hA, decide_true]
 obtain ⟨r, e, rfl⟩ := this
 exact e
theorem stale5_ev (q : CQ h cb qb lb mb v tag base cur l idle cage) (ht : h.get tb = .cells (tryL cb tg bs st why age bv qv f) 0) (hne : cage ≠ age) :
  EF Tryz.prog O0 35 [ptr tb 0, .int .i64 5] h = some (.int .i64 12, h) := by
 have : WPo (EF Tryz.prog O0 35 [ptr tb 0, .int .i64 5] h) fun r => r = (.int .i64 12, h) := by
  have hA := coreAge_ev q
  have hd : decide (cage = age) = false := decide_eq_false hne
  unfold tryL at *
  rw [EF_body (O := O0) (by kernel_rfl) Tryz.func35 rfl (rs := [.tmp 4]) rfl (bad := [1]) (by kernel_rfl) _ _ (m := 95) rfl]
  simp (disch := first|exact dis|fail) only [go_sem, Int.reduceToNat, Nat.reduceMul, Nat.reduceAdd, Nat.reduceSub]
  (first | rw [EU_region] | rw [EU_draw _ _ rfl]); simp (disch := first|exact dis|fail) only [go_sem, Int.reduceToNat, Nat.reduceMul, Nat.reduceAdd, Nat.reduceSub]
  rw [EU_bad _ _ rfl, EC_tab (tab := [(false, none), (false, none), (false, none), (false, none), (false, none), (false, none), (false, none), (true, none), (false, none), (false, none), (false, none), (false, (some (0, 1))), (false, none), (false, none)]) (by kernel_rfl)]
  simp (disch := first|exact dis|fail) only [go_sem, Int.reduceToNat, Nat.reduceMul, Nat.reduceAdd, Nat.reduceSub, ↓EU_rg, ht, Int.reduceLT, Int.reduceEq, hA, hd]
 obtain ⟨r, e, rfl⟩ := this
 exact e
theorem forced5_ev (q : CQ h cb qb lb mb v tag base cur l idle cage) (ht : h.get tb = .cells (tryL cb tg bs st why cage bv qv f) 0) (hf : f 5 = true) :
  EF Tryz.prog O0 35 [ptr tb 0, .int .i64 5] h = some (.int .i64 13, h) := by
 have : WPo (EF Tryz.prog O0 35 [ptr tb 0, .int .i64 5] h) fun r => r = (.int .i64 13, h) := by
  have hA := coreAge_ev q
  unfold tryL at *
  rw [hf] at ht
  rw [EF_body (O := O0) (by kernel_rfl) Tryz.func35 rfl (rs := [.tmp 4]) rfl (bad := [1]) (by kernel_rfl) _ _ (m := 95) rfl]
  simp (disch := first|exact dis|fail) only [go_sem, Int.reduceToNat, Nat.reduceMul, Nat.reduceAdd, Nat.reduceSub]
  (first | rw [EU_region] | rw [EU_draw _ _ rfl]); simp (disch := first|exact dis|fail) only [go_sem, Int.reduceToNat, Nat.reduceMul, Nat.reduceAdd, Nat.reduceSub]
  rw [EU_bad _ _ rfl, EC_tab (tab := [(false, none), (false, none), (false, none), (false, none), (false, none), (false, none), (false, none), (true, none), (false, none), (false, none), (false, none), (false, (some (0, 1))), (false, none), (false, none)]) (by kernel_rfl)]
  simp (disch := first|exact dis|fail) only [go_sem, Int.reduceToNat, Nat.reduceMul, Nat.reduceAdd, Nat.reduceSub, ↓EU_rg, ht, Int.reduceLT, Int.reduceEq, hA, decide_true]
 obtain ⟨r, e, rfl⟩ := this
 exact e
theorem next2_ev (q : CQ h cb qb lb mb v tag base cur l idle cage) (ht : h.get tb = .cells (tryL cb tg bs st why cage bv qv f) 0) (hlt : tb < h.next) (hf : f 2 = false) (hl : l.length < 800000) (hw : Near base l) (hg : cgood tag cur (l.map (itP base)) = true) :
  WPo (EF Tryz.prog O0 35 [ptr tb 0, .int .i64 2] h) fun r => ∃ u, r.1 = .int .i64 0 ∧ Mod (fun i => i = tb) h r.2 ∧ r.2.get tb = .cells (tryL cb tg bs st why cage u qv f) 0 ∧ OW byteE 1 r.2 u (sealN (encF tag cur (l.map (itP base)))) ∧ Fresh h.next u := by
 have hA := coreAge_ev q
 unfold tryL at *
 rw [hf] at ht
 rw [EF_body (O := O0) (by kernel_rfl) Tryz.func35 rfl (rs := [.tmp 4]) rfl (bad := [1]) (by kernel_rfl) _ _ (m := 95) rfl]
 simp (disch := first|exact dis|fail) only [go_sem, Int.reduceToNat, Nat.reduceMul, Nat.reduceAdd, Nat.reduceSub]
 (first | rw [EU_region] | rw [EU_draw _ _ rfl]); simp (disch := first|exact dis|fail) only [go_sem, Int.reduceToNat, Nat.reduceMul, Nat.reduceAdd, Nat.reduceSub]
 rw [EU_bad _ _ rfl, EC_tab (tab := [(false, none), (false, none), (false, none), (false, none), (false, none), (false, none), (false, none), (true, none), (false, none), (false, none), (false, none), (false, (some (0, 1))), (false, none), (false, none)]) (by kernel_rfl)]
 simp (disch := first|exact dis|fail) only [go_sem, Int.reduceToNat, Nat.reduceMul, Nat.reduceAdd, Nat.reduceSub, ↓EU_rg, ht, Int.reduceLT, Int.reduceEq, hA, decide_true]
 repeat refine WPo_ob ?_
 refine (write_ev q hl hw).mono ?_
 rintro ⟨w, h1⟩ ⟨x1, _, k⟩
 obtain ⟨u, e, ou, fu⟩ := k hg
 simp only at e ou x1
 subst e
 have ht1 := (x1.old tb hlt).trans ht
 obtain ⟨au, ku, e⟩ := ou.val
 subst e
 simp (disch := first|exact dis|fail) only [go_sem, Int.reduceToNat, Nat.reduceMul, Nat.reduceAdd, Nat.reduceSub, ↓EU_rg, ht1, hf]
 refine ⟨_, trivial, (x1.mod _).set _ _ fun _ => rfl, by simp (disch := first|exact dis|fail) only [go_sem, Int.reduceToNat, Nat.reduceMul, Nat.reduceAdd, Nat.reduceSub, ↓EU_rg], ou.mod (Mod.set (S := fun j => j = tb) (Mod.refl _ _) _ _ (fun _ => rfl)) (fun j hj q => by have := fu j hj; omega), fu⟩
theorem next3_ev (q : CQ h cb qb lb mb v tag base cur l idle cage) (ht : h.get tb = .cells (tryL cb tg bs st why cage bv qv f) 0) (hlt : tb < h.next) (hf : f 3 = false) (b : List UInt8) (hs : SL byteE 1 h bv b) (hl : b.length < 600000) (hlr : (readR b).2.2.2.1.length < 900000) (htg : tgood tg = true) (hbg : bgood bs = true) (hgd : (readR b).2.2.2.2 = 0 → goodF (readR b).2.2.1 (readR b).2.2.2.1 = true) :
  WPo (EF Tryz.prog O0 35 [ptr tb 0, .int .i64 3] h) fun r => r.1 = .int .i64 (readR b).2.2.2.2 ∧ Mod (fun i => i = tb) h r.2 ∧ ∃ u, r.2.get tb = .cells (tryL cb tg bs st why cage bv u f) 0 ∧ ((readR b).2.2.2.2 = 0 → ∃ qb lb v, u = ptr qb 0 ∧ PQ r.2 qb lb v tg bs (readR b).2.2.1 ((readR b).2.2.2.1.map (ptI bs)) ∧ h.next ≤ qb ∧ h.next ≤ lb ∧ Fresh h.next v) := by
 have hA := coreAge_ev q
 unfold tryL at *
 rw [hf] at ht
 rw [EF_body (O := O0) (by kernel_rfl) Tryz.func35 rfl (rs := [.tmp 4]) rfl (bad := [1]) (by kernel_rfl) _ _ (m := 95) rfl]
 simp (disch := first|exact dis|fail) only [go_sem, Int.reduceToNat, Nat.reduceMul, Nat.reduceAdd, Nat.reduceSub]
 (first | rw [EU_region] | rw [EU_draw _ _ rfl]); simp (disch := first|exact dis|fail) only [go_sem, Int.reduceToNat, Nat.reduceMul, Nat.reduceAdd, Nat.reduceSub]
 rw [EU_bad _ _ rfl, EC_tab (tab := [(false, none), (false, none), (false, none), (false, none), (false, none), (false, none), (false, none), (true, none), (false, none), (false, none), (false, none), (false, (some (0, 1))), (false, none), (false, none)]) (by kernel_rfl)]
 simp (disch := first|exact dis|fail) only [go_sem, Int.reduceToNat, Nat.reduceMul, Nat.reduceAdd, Nat.reduceSub, ↓EU_rg, ht, Int.reduceLT, Int.reduceEq, hA, decide_true]
 repeat refine WPo_ob ?_
 refine (make_ev b bv tg bs h hs hl hlr).mono ?_
 rintro ⟨w, h1⟩ ⟨x1, _, k1, k2⟩
 have ht1 := (x1.old tb hlt).trans ht
 obtain ⟨ab, kb, e⟩ := hs.val
 subst e
 by_cases he : (readR b).2.2.2.2 = 0
 ·obtain ⟨qb, lb, v, e, pq, hqb, hlb, fv⟩ := k2 htg he hbg (hgd he)
  simp only at e pq x1
  subst e
  simp (disch := first|exact dis|fail) only [go_sem, Int.reduceToNat, Nat.reduceMul, Nat.reduceAdd, Nat.reduceSub, ↓EU_rg, ht1, hf]
  refine ⟨by rw [he], (x1.mod _).set _ _ fun _ => rfl, ptr qb 0, by simp (disch := first|exact dis|fail) only [go_sem, Int.reduceToNat, Nat.reduceMul, Nat.reduceAdd, Nat.reduceSub, ↓EU_rg], fun _ => ⟨qb, lb, v, rfl, pq.mod (Mod.set (S := fun j => j = tb) (Mod.refl _ _) _ _ (fun _ => rfl)) (by omega) (by omega) (fun j hj q => by have := fv j hj; omega), hqb, hlb, fv⟩⟩
 ·have e := k1 htg he
  simp only at e x1
  subst e
  unfold nilP
  simp (disch := first|exact dis|fail) only [go_sem, Int.reduceToNat, Nat.reduceMul, Nat.reduceAdd, Nat.reduceSub, ↓EU_rg, ht1, hf]
  exact ⟨trivial, (x1.mod _).set _ _ fun _ => rfl, .pointer none, by simp (disch := first|exact dis|fail) only [go_sem, Int.reduceToNat, Nat.reduceMul, Nat.reduceAdd, Nat.reduceSub, ↓EU_rg], fun h => absurd h he⟩
theorem next4_ev (q : CQ h cb qb lb mb v tag base cur l idle cage) {qb2 lb2 : Nat} {v2 : Value} {tag2 base2 cur2 : Int} {l2 : List Pnt} (q2 : PQ h qb2 lb2 v2 tag2 base2 cur2 l2) (ht : h.get tb = .cells (tryL cb tg bs st why cage bv (ptr qb2 0) f) 0) (hlt : tb < h.next) (hf : f 4 = false) (hl : l.length < 800000) (hw : Near base l) (hl2 : l2.length < 800000) (hw2 : Near base2 l2) :
  WPo (EF Tryz.prog O0 35 [ptr tb 0, .int .i64 4] h) fun r => r.1 = .int .i64 (if faultsF cur2 (l2.map (itP base2)) cur (l.map (itP base)) = [] then 0 else 11) ∧ Ext h r.2 := by
 have hA := coreAge_ev q
 unfold tryL at *
 rw [hf] at ht
 rw [EF_body (O := O0) (by kernel_rfl) Tryz.func35 rfl (rs := [.tmp 4]) rfl (bad := [1]) (by kernel_rfl) _ _ (m := 95) rfl]
 simp (disch := first|exact dis|fail) only [go_sem, Int.reduceToNat, Nat.reduceMul, Nat.reduceAdd, Nat.reduceSub]
 (first | rw [EU_region] | rw [EU_draw _ _ rfl]); simp (disch := first|exact dis|fail) only [go_sem, Int.reduceToNat, Nat.reduceMul, Nat.reduceAdd, Nat.reduceSub]
 rw [EU_bad _ _ rfl, EC_tab (tab := [(false, none), (false, none), (false, none), (false, none), (false, none), (false, none), (false, none), (true, none), (false, none), (false, none), (false, none), (false, (some (0, 1))), (false, none), (false, none)]) (by kernel_rfl)]
 simp (disch := first|exact dis|fail) only [go_sem, Int.reduceToNat, Nat.reduceMul, Nat.reduceAdd, Nat.reduceSub, ↓EU_rg, ht, Int.reduceLT, Int.reduceEq, hA, decide_true]
 repeat refine WPo_ob ?_
 refine (fits_ev q q2 hl hw hl2 hw2).mono ?_
 rintro ⟨w, h1⟩ ⟨o1, f1, x1⟩
 simp only at o1 x1
 obtain ⟨a1, k1, e⟩ := o1.val
 subst e
 revert o1 f1
 generalize faultsF cur2 (l2.map (itP base2)) cur (l.map (itP base)) = fl
 intro o1 f1
 cases fl with
 | nil =>
  have hd : decide ((0 : Int) < ((0 : Nat) : Int)) = false := rfl
  simp (disch := first|exact dis|fail) only [go_sem, Int.reduceToNat, Nat.reduceMul, Nat.reduceAdd, Nat.reduceSub, ↓EU_rg, List.length_nil, hd]
  exact ⟨by rw [if_pos trivial], x1⟩
 | cons x fl =>
  have hd : decide ((0 : Int) < ((fl.length + 1 : Nat) : Int)) = true := decide_eq_true (by omega)
  simp (disch := first|exact dis|fail) only [go_sem, Int.reduceToNat, Nat.reduceMul, Nat.reduceAdd, Nat.reduceSub, ↓EU_rg, hd]
  exact ⟨by rw [if_neg (by simp)], x1⟩
theorem next5_ev (q : CQ h cb qb lb mb v tag base cur l idle cage) {qb2 lb2 : Nat} {v2 : Value} {tag2 base2 cur2 : Int} {l2 : List Pnt} (q2 : PQ h qb2 lb2 v2 tag2 base2 cur2 l2) (ht : h.get tb = .cells (tryL cb tg bs st why cage bv (ptr qb2 0) f) 0) (hlt : tb < h.next) (hf : f 5 = false) (hl : l.length < 800000) (hw : Near base l) (hl2 : l2.length < 800000) (hw2 : Near base2 l2) :
  WPo (EF Tryz.prog O0 35 [ptr tb 0, .int .i64 5] h) fun r => if cur2 = cur ∧ l2.map (itP base2) = l.map (itP base) then r.1 = .int .i64 0 ∧ Mod (fun i => i = cb) h r.2 ∧ r.2.get cb = .cells [ptr qb2 0, .map (some mb), .int .i64 idle, .int .i64 cage] 0 else r.1 = .int .i64 4 ∧ Ext h r.2 := by
 have hA := coreAge_ev q
 unfold tryL at *
 rw [hf] at ht
 rw [EF_body (O := O0) (by kernel_rfl) Tryz.func35 rfl (rs := [.tmp 4]) rfl (bad := [1]) (by kernel_rfl) _ _ (m := 95) rfl]
 simp (disch := first|exact dis|fail) only [go_sem, Int.reduceToNat, Nat.reduceMul, Nat.reduceAdd, Nat.reduceSub]
 (first | rw [EU_region] | rw [EU_draw _ _ rfl]); simp (disch := first|exact dis|fail) only [go_sem, Int.reduceToNat, Nat.reduceMul, Nat.reduceAdd, Nat.reduceSub]
 rw [EU_bad _ _ rfl, EC_tab (tab := [(false, none), (false, none), (false, none), (false, none), (false, none), (false, none), (false, none), (true, none), (false, none), (false, none), (false, none), (false, (some (0, 1))), (false, none), (false, none)]) (by kernel_rfl)]
 simp (disch := first|exact dis|fail) only [go_sem, Int.reduceToNat, Nat.reduceMul, Nat.reduceAdd, Nat.reduceSub, ↓EU_rg, ht, Int.reduceLT, Int.reduceEq, hA, decide_true]
 repeat refine WPo_ob ?_
 refine (change_ev q q2 hl hw hl2 hw2).mono ?_
 rintro ⟨w, h1⟩ k
 by_cases hc : cur2 = cur ∧ l2.map (itP base2) = l.map (itP base)
 ·rw [if_pos hc] at k
  obtain ⟨e, m1, k3⟩ := k
  simp only at e m1 k3
  subst e
  simp (disch := first|exact dis|fail) only [go_sem, Int.reduceToNat, Nat.reduceMul, Nat.reduceAdd, Nat.reduceSub, ↓EU_rg, if_pos hc]
  exact ⟨trivial, m1, k3⟩
 ·rw [if_neg hc] at k
  obtain ⟨e, m1⟩ := k
  simp only at e m1
  subst e
  simp (disch := first|exact dis|fail) only [go_sem, Int.reduceToNat, Nat.reduceMul, Nat.reduceAdd, Nat.reduceSub, ↓EU_rg, if_neg hc]
  exact ⟨trivial, m1⟩
end
end Go.Proofs.YtddgcakiceodgaaGreat.EV
