/- Contracts: the reference's At, Faults. No condition. A piece of a function's code, by the way to it. No condition. StagePlays: what an act is shown to leave; the way into the code of an act. No condition. StagePlays: a Step. No condition. StagePlays: Abort, Spoil, Cut. No condition. -/
import Derived.Test.YtddgcakiceodgaaGreatM21
import Derived.Test.YtddgcakiceodgaaGreatM10
namespace Go.Proofs.YtddgcakiceodgaaGreat.EV
open Go Go.Proofs
set_option linter.unusedVariables false
set_option linter.unusedSimpArgs false
set_option maxRecDepth 100000
theorem at_ev (cur : Int) (l : List Item) (s : Value) (id : Int) (h : Heap) (hs : SL itemE 3 h s l) (hl : l.length < 900000) :
  Pu (EF Tryz.prog O0 50 [formV cur s, .int .i64 id] h) h (.int .i64 (idx (byId id) l)) := by
 unfold Pu formV
 rw [EF_body (O := O0) (by kernel_rfl) Tryz.func50 rfl (rs := [.tmp 4]) rfl (bad := []) (by kernel_rfl) _ _ (m := 22) rfl]
 obtain ⟨a, c, hv⟩ := hs.val
 subst hv
 simp (disch := first|exact dis|fail) only [go_sem, simprocAttr, ↓EU_rg]
 have x1 : Ext h (h.push (.cells [.int .i64 cur, .slice a l.length c] 0)) := (Ext.refl h).push _
 have c1 : (h.push (.cells [.int .i64 cur, .slice a l.length c] 0)).get h.next = .cells [.int .i64 cur, .slice a l.length c] 0 := get_push_new _ _
 generalize h.push (.cells [.int .i64 cur, .slice a l.length c] 0) = h1 at *
 repeat refine WPo_ob ?_
 refine (LP_rule (fun m st => ∃ (i : Nat) (tm : Fr), st = ⟨tm, h1, []⟩ ∧ m = l.length - i ∧ i ≤ l.length ∧ Fr.get tm 1 = .int .i64 id ∧ Fr.get tm 2 = ptr h.next 0 ∧ Fr.get tm 5 = .int .i64 i ∧ ∀ j y, j < i → l[j]? = some y → byId id y = false)
  (fun q => ∃ tm, q.2 = ⟨tm, h1, []⟩ ∧ ((q.1 = .exit 0 ∧ idx (byId id) l = -1) ∨ (q.1 = .ret ∧ Fr.get tm 4 = .int .i64 (idx (byId id) l)))) ?_ l.length _ _ ?_ ?_).mono ?_
 ·rintro m _ ⟨i, tm, rfl, rfl, hi, g1, g2, g5, hn⟩
  simp (disch := first|exact dis|fail) only [go_sem, simprocAttr, ↓EU_rg, g1, g2, g5, c1]
  ((repeat refine WPo_ob ?_); (first | refine WPo_cond (fun b1 => ?_) (fun b1 => ?_) | refine WPo_gard (fun b1 => ?_) (fun b1 => ?_) | refine WPo_gardT (fun b1 => ?_) (fun b1 => ?_)) <;> (try simp only [Bool.not_eq_true', Bool.not_eq_false'] at b1))
  ·have b1' := b1
   simp only [decide_eq_true_eq] at b1'
   have hi' : i < l.length := by omega
   obtain ⟨x, hx⟩ : ∃ x, l[i]? = some x := ⟨_, List.getElem?_eq_getElem hi'⟩
   obtain ⟨b, o, c', e, hb', hrd, hr⟩ := (hs.ext x1).at hx rfl
   cases e
   have hr0 := hr 0 _ rfl
   rw [add_z] at hr0
   have hi0 : ((i : Int)).toNat = i := by omega
   have hwi : wrapF .i64 ((i : Int) + 1) = ((i + 1 : Nat) : Int) := by rw [wrap64 (by omega)]; omega
   cases d : decide (x.id = id) with
   | true =>
    simp (disch := first|exact dis|fail) only [go_sem, simprocAttr, ↓EU_rg, g1, g2, g5, c1, hr0, hi0, d]
    exact ⟨_, rfl, .inr ⟨trivial, by simp (disch := first|exact dis|fail) only [go_sem, simprocAttr, ↓EU_rg]; rw [idx_hit hx d hn]⟩⟩
   | false =>
    simp (disch := first|exact dis|fail) only [go_sem, simprocAttr, ↓EU_rg, g1, g2, g5, c1, hr0, hi0, d, hwi]
    refine ⟨_, by omega, i + 1, _, rfl, rfl, by omega, by simp (disch := first|exact dis|fail) only [go_sem, simprocAttr, ↓EU_rg, g1], by simp (disch := first|exact dis|fail) only [go_sem, simprocAttr, ↓EU_rg, g2], by simp (disch := first|exact dis|fail) only [go_sem, simprocAttr, ↓EU_rg], fun j y hj hy => ?_⟩
    rcases Nat.lt_succ_iff_lt_or_eq.1 hj with hj | rfl
    ·exact hn j y hj hy
    ·rw [hx] at hy; cases hy; exact d
  ·simp only [decide_eq_false_iff_not] at b1
   simp (disch := first|exact dis|fail) only [go_sem, simprocAttr, ↓EU_rg]
   exact ⟨_, rfl, .inl ⟨trivial, idx_miss fun j y hj => hn j y (by omega)⟩⟩
 ·exact ⟨0, _, rfl, rfl, by omega, by simp (disch := first|exact dis|fail) only [go_sem, simprocAttr, ↓EU_rg], by simp (disch := first|exact dis|fail) only [go_sem, simprocAttr, ↓EU_rg], by simp (disch := first|exact dis|fail) only [go_sem, simprocAttr, ↓EU_rg]; all_goals rfl, fun j y hj => absurd hj (Nat.not_lt_zero _)⟩
 ·omega
 ·rintro ⟨q, _⟩ ⟨tm, rfl, ⟨rfl, e⟩ | ⟨rfl, e⟩⟩
  ·simp (disch := first|exact dis|fail) only [go_sem, simprocAttr, ↓EU_rg]
   rw [e]
   exact ⟨rfl, x1⟩
  ·simp (disch := first|exact dis|fail) only [go_sem, simprocAttr, ↓EU_rg, e]
   exact ⟨trivial, x1⟩
set_option maxHeartbeats 1000000 in
theorem rfaults_ev (c1 c2 : Int) (l m : List Item) (s t : Value) (h : Heap) (hs : SL itemE 3 h s l) (ht : SL itemE 3 h t m) (hl : l.length < 900000) (hm : m.length < 900000) :
  WPo (EF Tryz.prog O0 27 [formV c1 s, formV c2 t] h) fun q => OW fltE 2 q.2 q.1 (faultsF c1 l c2 m) ∧ Fresh h.next q.1 ∧ Ext h q.2 := by
 rw [EF_body (O := O0) (by kernel_rfl) Tryz.func27 rfl (rs := [.tmp 4]) rfl (bad := []) (by kernel_rfl) _ _ (m := 108) rfl]
 obtain ⟨a, c, hv⟩ := hs.val
 subst hv
 obtain ⟨a2, k2, hv⟩ := ht.val
 subst hv
 unfold formV
 have x0 : Ext h ((h.push (.cells [.int .i64 c1, .slice a l.length c] 0)).push (.cells [.int .i64 c2, .slice a2 m.length k2] 0)) := ((Ext.refl h).push _).push _
 have hfm := bad_ev c1 l _ _ (hs.ext x0) hl
 unfold formV at hfm
 simp (disch := first|exact dis|fail) only [go_sem, simprocAttr, ↓EU_rg]
 repeat refine WPo_ob ?_
 refine hfm.mono ?_
 rintro ⟨u0, h1⟩ ⟨ho0, hf0, x1⟩
 simp only [next_push] at ho0 hf0 x1
 have hn1 := x1.le
 simp only [next_push] at hn1
 have hA1 : h1.get h.next = .cells [.int .i64 c1, .slice a l.length c] 0 := by simp (disch := first|exact dis|fail) only [go_sem, simprocAttr, ↓EU_rg, x1.old]
 have hB1 : h1.get (h.next + 1) = .cells [.int .i64 c2, .slice a2 m.length k2] 0 := by simp (disch := first|exact dis|fail) only [go_sem, simprocAttr, ↓EU_rg, x1.old]
 have y1 : Ext h h1 := x0.trans x1
 have hfl := formF_len c1 l
 unfold faultsF
 generalize hdf : diffF c1 l c2 m = df
 generalize formF c1 l = F0 at *
 clear hfm x1 x0
 obtain ⟨av, kv, rfl⟩ := ho0.val
 simp (disch := first|exact dis|fail) only [go_sem, simprocAttr, ↓EU_rg]
 ((repeat refine WPo_ob ?_); (first | refine WPo_cond (fun b1 => ?_) (fun b1 => ?_) | refine WPo_gard (fun b1 => ?_) (fun b1 => ?_) | refine WPo_gardT (fun b1 => ?_) (fun b1 => ?_)) <;> (try simp only [Bool.not_eq_true', Bool.not_eq_false'] at b1))
 ·simp (disch := first|exact dis|fail) only [go_sem, simprocAttr, ↓EU_rg, b1]
  try rw [if_pos trivial]
  exact ⟨ho0, hf0.mono (by omega), y1⟩
 ·have b1' := b1
  simp only [decide_eq_false_iff_not] at b1'
  have : F0 = [] := List.length_eq_zero_iff.1 (by omega)
  subst this
  rw [if_neg (by simp)]
  clear b1 b1' hfl
  have hls0 : ∀ h', Ext h h' → SL itemE 3 h' (.slice a l.length c) l := fun h' x => hs.ext x
  simp (disch := first|exact dis|fail) only [go_sem, simprocAttr, ↓EU_rg]
  repeat refine WPo_ob ?_
  refine (LP_rule (fun n st => ∃ (i : Nat) (tm : Fr) (h2 : Heap) (u : Value) (acc : List Flt), st = ⟨tm, h2, []⟩ ∧ n = m.length - i ∧ i ≤ m.length ∧ Fr.get tm 2 = ptr h.next 0 ∧ Fr.get tm 3 = ptr (h.next + 1) 0 ∧ Fr.get tm 5 = u ∧ Fr.get tm 6 = .int .i64 i ∧ OW fltE 2 h2 u acc ∧ acc = (m.take i).flatMap (wantF l) ∧ Gr (.slice av 0 kv) h1 u h2)
   (fun q => ∃ tm h2 u, q.2 = ⟨tm, h2, []⟩ ∧ q.1 = .exit 0 ∧ Fr.get tm 2 = ptr h.next 0 ∧ Fr.get tm 3 = ptr (h.next + 1) 0 ∧ Fr.get tm 5 = u ∧ OW fltE 2 h2 u (m.flatMap (wantF l)) ∧ Gr (.slice av 0 kv) h1 u h2) ?_ m.length _ _ ?_ ?_).mono ?_
  ·rintro n _ ⟨i, tm, h2, u, acc, rfl, rfl, hi, g2, g3, g5, g6, hov, hacc, gr⟩
   have x2 : Ext h h2 := ⟨Nat.le_trans y1.le gr.le, fun j hj => (gr.old j (Nat.lt_of_lt_of_le hj y1.le) (fun q => by have := hf0 j q; omega)).trans (y1.old j hj)⟩
   have hA : h2.get h.next = .cells [.int .i64 c1, .slice a l.length c] 0 := (gr.old _ (by omega) (fun q => by have := hf0 _ q; omega)).trans hA1
   have hB : h2.get (h.next + 1) = .cells [.int .i64 c2, .slice a2 m.length k2] 0 := (gr.old _ (by omega) (fun q => by have := hf0 _ q; omega)).trans hB1
   have hn2 := gr.le
   have hal : acc.length ≤ 2 * i := by
    have := flat_len (wantF l) 2 (wantF_len l) (m.take i)
    rw [List.length_take] at this
    rw [hacc]; omega
   obtain ⟨au, ku, rfl⟩ := hov.val
   simp (disch := first|exact dis|fail) only [go_sem, simprocAttr, ↓EU_rg, g2, g3, g5, g6, hB]
   ((repeat refine WPo_ob ?_); (first | refine WPo_cond (fun b1 => ?_) (fun b1 => ?_) | refine WPo_gard (fun b1 => ?_) (fun b1 => ?_) | refine WPo_gardT (fun b1 => ?_) (fun b1 => ?_)) <;> (try simp only [Bool.not_eq_true', Bool.not_eq_false'] at b1))
   ·have b1' := b1
    simp only [decide_eq_true_eq] at b1'
    have hi' : i < m.length := by omega
    obtain ⟨x, hx⟩ : ∃ x, m[i]? = some x := ⟨_, List.getElem?_eq_getElem hi'⟩
    obtain ⟨b, o, c', e, hb', hrd, hr⟩ := (ht.ext x2).at hx rfl
    cases e
    have hwi : wrapF .i64 ((i : Int) + 1) = ((i + 1 : Nat) : Int) := by rw [wrap64 (by omega)]; omega
    have htk := take_flat (wantF l) hx
    have hfd := at_ev c1 l (.slice a l.length c) x.id (h2.push (.cells (itemE x) 0)) (hls0 _ (x2.push _)) hl
    unfold formV at hfd
    have hAp : (h2.push (.cells (itemE x) 0)).get h.next = .cells [.int .i64 c1, .slice a l.length c] 0 := by rw [get_push_old _ (by omega)]; exact hA
    simp (disch := first|exact dis|fail) only [go_sem, simprocAttr, ↓EU_rg, g2, g3, g5, g6, hrd, hA, hB, hAp]
    repeat refine WPo_ob ?_
    refine hfd.bind fun h3 x3 => ?_
    have hn3 := x3.le
    rw [next_push] at hn3
    have hX3 : h3.get h2.next = .cells (itemE x) 0 := (x3.old _ (by rw [next_push]; omega)).trans (get_push_new _ _)
    have y3 : Ext h2 h3 := ((Ext.refl h2).push _).trans x3
    have hA3 : h3.get h.next = .cells [.int .i64 c1, .slice a l.length c] 0 := (y3.old _ (by omega)).trans hA
    have hov3 := hov.ext y3
    have gr3 := gr.ext y3
    cases hq : l.any (byId x.id) with
    | false =>
     have hw : wantF l x = [⟨8, x.id⟩] := by unfold wantF; rw [hq]; rfl
     have hn : decide (idx (byId x.id) l < 0) = true := by rw [idx_neg, hq]; rfl
     simp (disch := first|exact dis|fail) only [go_sem, simprocAttr, ↓EU_rg, g2, g3, g5, g6, hn, hX3]
     repeat refine WPo_ob ?_
     have hlit := OW.lit fltE_len h3 [(⟨8, x.id⟩ : Flt)]
     rw [List.flatMap_cons, List.flatMap_nil, List.append_nil] at hlit
     unfold fltE at hlit
     refine append_gr (l := acc) (l' := [(⟨8, x.id⟩ : Flt)]) fc_ap_62_62 fltE_len (by decide) fltE_scal (hov3.ext ((Ext.refl h3).push _)) hlit.sl (by simp only [List.length_append, List.length_cons, List.length_nil]; omega) (by simp only [List.length_append, List.length_cons, List.length_nil]; omega) fun v' h5 hov5 gr5 => ?_
     simp (disch := first|exact dis|fail) only [go_sem, simprocAttr, ↓EU_rg, g2, g3, g5, g6, hwi]
     exact ⟨_, by omega, i + 1, _, _, _, _, rfl, rfl, by omega, by simp (disch := first|exact dis|fail) only [go_sem, simprocAttr, ↓EU_rg, g2], by simp (disch := first|exact dis|fail) only [go_sem, simprocAttr, ↓EU_rg, g3], by simp (disch := first|exact dis|fail) only [go_sem, simprocAttr, ↓EU_rg], by simp (disch := first|exact dis|fail) only [go_sem, simprocAttr, ↓EU_rg], hov5, by rw [htk, hw, hacc], (gr3.push _).trans gr5⟩
    | true =>
     obtain ⟨k, y, e1, e2, e3⟩ := idx_any hq
     have hyy : fndR x.id l = y := by unfold fndR; rw [e3]; rfl
     have hw : wantF l x = ifF (!decide (y.w = x.w)) ⟨10, x.id⟩ ++ ifF (!decide (y.lag = x.lag)) ⟨11, x.id⟩ := by unfold wantF; rw [hq, if_pos rfl, hyy]
     rw [e1]
     have hn : decide ((k : Int) < 0) = false := decide_eq_false (by omega)
     have hkl := (List.getElem?_eq_some_iff.1 e2).1
     obtain ⟨ba, oa, ca, e, _, _, hry⟩ := (hls0 h3 (x2.trans y3)).at e2 rfl
     cases e
     have hr1 := hry 1 _ rfl
     have hr2 := hry 2 _ rfl
     have hk0 : ((k : Int)).toNat = k := by omega
     simp (disch := first|exact dis|fail) only [go_sem, simprocAttr, ↓EU_rg, g2, g3, g5, g6, hn, hX3, hA3, hr1, hk0]
     refine WPo_ob ?_
     refine WPo.mono (Q := fun q => ∃ tm' h5 u5, q = (.normal, ⟨tm', h5, []⟩) ∧ OW fltE 2 h5 u5 (acc ++ ifF (!decide (y.w = x.w)) ⟨10, x.id⟩) ∧ Gr (.slice av 0 kv) h1 u5 h5 ∧ h5.get h2.next = .cells (itemE x) 0 ∧ h5.get h.next = .cells [.int .i64 c1, .slice (some ⟨ba, oa, none⟩) l.length c] 0 ∧ rdc1 (h5.get ba) (oa + k * 3 + 2) = some (.int .i64 y.lag) ∧ Fr.get tm' 2 = ptr h.next 0 ∧ Fr.get tm' 3 = ptr (h.next + 1) 0 ∧ Fr.get tm' 5 = u5 ∧ Fr.get tm' 6 = .int .i64 i ∧ Fr.get tm' 7 = ptr h2.next 0 ∧ Fr.get tm' 8 = .int .i64 k) ?_ ?_
     ·cases hd : decide (y.w = x.w) with
      | true =>
       simp (disch := first|exact dis|fail) only [go_sem, simprocAttr, ↓EU_rg]
       rw [ifF_f, List.append_nil]
       exact ⟨_, _, _, rfl, hov3, gr3, hX3, hA3, hr2, by simp (disch := first|exact dis|fail) only [go_sem, simprocAttr, ↓EU_rg, g2], by simp (disch := first|exact dis|fail) only [go_sem, simprocAttr, ↓EU_rg, g3], by simp (disch := first|exact dis|fail) only [go_sem, simprocAttr, ↓EU_rg, g5], by simp (disch := first|exact dis|fail) only [go_sem, simprocAttr, ↓EU_rg, g6], by simp (disch := first|exact dis|fail) only [go_sem, simprocAttr, ↓EU_rg], by simp (disch := first|exact dis|fail) only [go_sem, simprocAttr, ↓EU_rg]⟩
      | false =>
       simp (disch := first|exact dis|fail) only [go_sem, simprocAttr, ↓EU_rg, g2, g3, g5, g6, hX3]
       rw [ifF_t]
       repeat refine WPo_ob ?_
       have hlit := OW.lit fltE_len h3 [(⟨10, x.id⟩ : Flt)]
       rw [List.flatMap_cons, List.flatMap_nil, List.append_nil] at hlit
       unfold fltE at hlit
       refine append_gr (l := acc) (l' := [(⟨10, x.id⟩ : Flt)]) fc_ap_62_62 fltE_len (by decide) fltE_scal (hov3.ext ((Ext.refl h3).push _)) hlit.sl (by simp only [List.length_append, List.length_cons, List.length_nil]; omega) (by simp only [List.length_append, List.length_cons, List.length_nil]; omega) fun v' h5 hov5 gr5 => ?_
       simp (disch := first|exact dis|fail) only [go_sem, simprocAttr, ↓EU_rg, g2, g3, g5, g6]
       have xh : Ext h h5 := ⟨Nat.le_trans y1.le ((gr3.push (.cells [.int .i64 10, .int .i64 x.id] 2)).trans gr5).le, fun j hj => (((gr3.push (.cells [.int .i64 10, .int .i64 x.id] 2)).trans gr5).old j (Nat.lt_of_lt_of_le hj y1.le) (fun q => by have := hf0 j q; omega)).trans (y1.old j hj)⟩
       obtain ⟨_, _, _, e, _, _, hry5⟩ := (hls0 h5 xh).at e2 rfl
       cases e
       exact ⟨_, _, _, rfl, hov5, (gr3.push _).trans gr5, by rw [gr5.old _ (by rw [next_push]; omega) (fun q => by have := hov.lt q; omega), get_push_old _ (by omega)]; exact hX3, (((gr3.push (.cells [.int .i64 10, .int .i64 x.id] 2)).trans gr5).old _ (by omega) (fun q => by have := hf0 _ q; omega)).trans hA1, hry5 2 _ rfl, by simp (disch := first|exact dis|fail) only [go_sem, simprocAttr, ↓EU_rg, g2], by simp (disch := first|exact dis|fail) only [go_sem, simprocAttr, ↓EU_rg, g3], by simp (disch := first|exact dis|fail) only [go_sem, simprocAttr, ↓EU_rg], by simp (disch := first|exact dis|fail) only [go_sem, simprocAttr, ↓EU_rg, g6], by simp (disch := first|exact dis|fail) only [go_sem, simprocAttr, ↓EU_rg], by simp (disch := first|exact dis|fail) only [go_sem, simprocAttr, ↓EU_rg]⟩
     ·have hl5 := ifF_len (!decide (y.w = x.w)) ⟨10, x.id⟩
      have hfin : acc ++ wantF l x = (acc ++ ifF (!decide (y.w = x.w)) ⟨10, x.id⟩) ++ ifF (!decide (y.lag = x.lag)) ⟨11, x.id⟩ := by rw [hw, List.append_assoc]
      generalize hA5 : acc ++ ifF (!decide (y.w = x.w)) ⟨10, x.id⟩ = A5 at *
      have hAl : A5.length ≤ 2 * i + 1 := by rw [← hA5, List.length_append]; omega
      clear g2 g3 g5 g6 hX3 hov3 gr3 hA3
      rintro _ ⟨tm5, h6, u5, rfl, hov6, gr6, hX6, hA6, hr6, g2, g3, g5, g6, g7, g8⟩
      obtain ⟨av6, kv6, rfl⟩ := hov6.val
      cases hd : decide (y.lag = x.lag) with
      | true =>
       simp (disch := first|exact dis|fail) only [go_sem, simprocAttr, ↓EU_rg, g2, g3, g5, g6, g7, g8, hX6, hA6, hr6, hk0, hd, hwi]
       rw [hd, Bool.not_true, ifF_f, List.append_nil] at hfin
       exact ⟨_, by omega, i + 1, _, _, _, _, rfl, rfl, by omega, by simp (disch := first|exact dis|fail) only [go_sem, simprocAttr, ↓EU_rg, g2], by simp (disch := first|exact dis|fail) only [go_sem, simprocAttr, ↓EU_rg, g3], by simp (disch := first|exact dis|fail) only [go_sem, simprocAttr, ↓EU_rg, g5], by simp (disch := first|exact dis|fail) only [go_sem, simprocAttr, ↓EU_rg], hov6, by rw [htk, ← hacc, hfin], gr6⟩
      | false =>
       simp (disch := first|exact dis|fail) only [go_sem, simprocAttr, ↓EU_rg, g2, g3, g5, g6, g7, g8, hX6, hA6, hr6, hk0, hd, hwi]
       rw [hd, Bool.not_false, ifF_t] at hfin
       repeat refine WPo_ob ?_
       have hlit := OW.lit fltE_len h6 [(⟨11, x.id⟩ : Flt)]
       rw [List.flatMap_cons, List.flatMap_nil, List.append_nil] at hlit
       unfold fltE at hlit
       refine append_gr (l := A5) (l' := [(⟨11, x.id⟩ : Flt)]) fc_ap_62_62 fltE_len (by decide) fltE_scal (hov6.ext ((Ext.refl h6).push _)) hlit.sl (by simp only [List.length_append, List.length_cons, List.length_nil]; omega) (by simp only [List.length_append, List.length_cons, List.length_nil]; omega) fun v' h5 hov5 gr5 => ?_
       simp (disch := first|exact dis|fail) only [go_sem, simprocAttr, ↓EU_rg, g2, g3, g5, g6, hwi]
       exact ⟨_, by omega, i + 1, _, _, _, _, rfl, rfl, by omega, by simp (disch := first|exact dis|fail) only [go_sem, simprocAttr, ↓EU_rg, g2], by simp (disch := first|exact dis|fail) only [go_sem, simprocAttr, ↓EU_rg, g3], by simp (disch := first|exact dis|fail) only [go_sem, simprocAttr, ↓EU_rg], by simp (disch := first|exact dis|fail) only [go_sem, simprocAttr, ↓EU_rg], hov5, by rw [htk, ← hacc, hfin], (gr6.push _).trans gr5⟩
   ·simp only [decide_eq_false_iff_not] at b1
    have : i = m.length := by omega
    subst this
    rw [List.take_length] at hacc
    subst hacc
    simp (disch := first|exact dis|fail) only [go_sem, simprocAttr, ↓EU_rg]
    exact ⟨_, _, _, rfl, trivial, by simp (disch := first|exact dis|fail) only [go_sem, simprocAttr, ↓EU_rg, g2], by simp (disch := first|exact dis|fail) only [go_sem, simprocAttr, ↓EU_rg, g3], by simp (disch := first|exact dis|fail) only [go_sem, simprocAttr, ↓EU_rg, g5], hov, gr⟩
  ·exact ⟨0, _, _, _, [], rfl, rfl, by omega, by simp (disch := first|exact dis|fail) only [go_sem, simprocAttr, ↓EU_rg], by simp (disch := first|exact dis|fail) only [go_sem, simprocAttr, ↓EU_rg], by simp (disch := first|exact dis|fail) only [go_sem, simprocAttr, ↓EU_rg], by simp (disch := first|exact dis|fail) only [go_sem, simprocAttr, ↓EU_rg]; all_goals rfl, ho0, rfl, Gr.refl _ _⟩
  ·omega
  ·rintro ⟨q, _⟩ ⟨tm, h2, u, rfl, rfl, g2, g3, g5, hov, gr⟩
   have x2 : Ext h h2 := ⟨Nat.le_trans y1.le gr.le, fun j hj => (gr.old j (Nat.lt_of_lt_of_le hj y1.le) (fun q => by have := hf0 j q; omega)).trans (y1.old j hj)⟩
   have hA : h2.get h.next = .cells [.int .i64 c1, .slice a l.length c] 0 := (gr.old _ (by omega) (fun q => by have := hf0 _ q; omega)).trans hA1
   have hgl := flat_len (wantF l) 2 (wantF_len l) m
   generalize hW : m.flatMap (wantF l) = W at *
   obtain ⟨au, ku, rfl⟩ := hov.val
   simp (disch := first|exact dis|fail) only [go_sem, simprocAttr, ↓EU_rg]
   repeat refine WPo_ob ?_
   refine (LP_rule (fun n st => ∃ (i : Nat) (tm : Fr) (h2 : Heap) (u : Value) (acc : List Flt), st = ⟨tm, h2, []⟩ ∧ n = l.length - i ∧ i ≤ l.length ∧ Fr.get tm 2 = ptr h.next 0 ∧ Fr.get tm 3 = ptr (h.next + 1) 0 ∧ Fr.get tm 5 = u ∧ Fr.get tm 9 = .int .i64 i ∧ OW fltE 2 h2 u acc ∧ acc = W ++ (l.take i).flatMap (gotF m) ∧ Gr (.slice av 0 kv) h1 u h2)
    (fun q => ∃ tm h2 u, q.2 = ⟨tm, h2, []⟩ ∧ q.1 = .exit 2 ∧ Fr.get tm 2 = ptr h.next 0 ∧ Fr.get tm 3 = ptr (h.next + 1) 0 ∧ Fr.get tm 5 = u ∧ OW fltE 2 h2 u (W ++ l.flatMap (gotF m)) ∧ Gr (.slice av 0 kv) h1 u h2) ?_ l.length _ _ ?_ ?_).mono ?_
   ·clear hov gr g2 g3 g5 x2 hA
    rintro n _ ⟨i, tm, h2, u, acc, rfl, rfl, hi, g2, g3, g5, g9, hov, hacc, gr⟩
    have x2 : Ext h h2 := ⟨Nat.le_trans y1.le gr.le, fun j hj => (gr.old j (Nat.lt_of_lt_of_le hj y1.le) (fun q => by have := hf0 j q; omega)).trans (y1.old j hj)⟩
    have hA : h2.get h.next = .cells [.int .i64 c1, .slice a l.length c] 0 := (gr.old _ (by omega) (fun q => by have := hf0 _ q; omega)).trans hA1
    have hB : h2.get (h.next + 1) = .cells [.int .i64 c2, .slice a2 m.length k2] 0 := (gr.old _ (by omega) (fun q => by have := hf0 _ q; omega)).trans hB1
    have hn2 := gr.le
    have hal : acc.length ≤ 2 * m.length + i := by
     have := flat_len (gotF m) 1 (fun x => ifF_len _ _) (l.take i)
     rw [List.length_take] at this
     rw [hacc, List.length_append]; omega
    obtain ⟨au, ku, rfl⟩ := hov.val
    simp (disch := first|exact dis|fail) only [go_sem, simprocAttr, ↓EU_rg, g2, g3, g5, g9, hA]
    ((repeat refine WPo_ob ?_); (first | refine WPo_cond (fun b1 => ?_) (fun b1 => ?_) | refine WPo_gard (fun b1 => ?_) (fun b1 => ?_) | refine WPo_gardT (fun b1 => ?_) (fun b1 => ?_)) <;> (try simp only [Bool.not_eq_true', Bool.not_eq_false'] at b1))
    ·have b1' := b1
     simp only [decide_eq_true_eq] at b1'
     have hi' : i < l.length := by omega
     obtain ⟨x, hx⟩ : ∃ x, l[i]? = some x := ⟨_, List.getElem?_eq_getElem hi'⟩
     obtain ⟨b, o, c', e, hb', hrd, hr⟩ := (hs.ext x2).at hx rfl
     cases e
     have hwi : wrapF .i64 ((i : Int) + 1) = ((i + 1 : Nat) : Int) := by rw [wrap64 (by omega)]; omega
     have htk := take_flat (gotF m) hx
     have hr0 := hr 0 _ rfl
     rw [add_z] at hr0
     have hi0 : ((i : Int)).toNat = i := by omega
     have hfd := at_ev c2 m (.slice a2 m.length k2) x.id h2 (ht.ext x2) hm
     unfold formV at hfd
     simp (disch := first|exact dis|fail) only [go_sem, simprocAttr, ↓EU_rg, g2, g3, g5, g9, hr0, hA, hB, hi0]
     repeat refine WPo_ob ?_
     refine hfd.bind fun h3 x3 => ?_
     have hn3 := x3.le
     have hA3 : h3.get h.next = .cells [.int .i64 c1, .slice (some ⟨b, o, none⟩) l.length c] 0 := (x3.old _ (by omega)).trans hA
     have hB3 : h3.get (h.next + 1) = .cells [.int .i64 c2, .slice a2 m.length k2] 0 := (x3.old _ (by omega)).trans hB
     have hr3 : rdc1 (h3.get b) (o + i * 3) = some (.int .i64 x.id) := by rw [x3.old _ hb']; exact hr0
     have hov3 := hov.ext x3
     have gr3 := gr.ext x3
     cases hq : m.any (byId x.id) with
     | false =>
      have hw : gotF m x = [⟨9, x.id⟩] := by unfold gotF; rw [hq]; rfl
      have hn : decide (idx (byId x.id) m < 0) = true := by rw [idx_neg, hq]; rfl
      simp (disch := first|exact dis|fail) only [go_sem, simprocAttr, ↓EU_rg, g2, g3, g5, g9, hn, hA3, hB3, hr3, hi0]
      repeat refine WPo_ob ?_
      have hlit := OW.lit fltE_len h3 [(⟨9, x.id⟩ : Flt)]
      rw [List.flatMap_cons, List.flatMap_nil, List.append_nil] at hlit
      unfold fltE at hlit
      refine append_gr (l := acc) (l' := [(⟨9, x.id⟩ : Flt)]) fc_ap_62_62 fltE_len (by decide) fltE_scal (hov3.ext ((Ext.refl h3).push _)) hlit.sl (by simp only [List.length_append, List.length_cons, List.length_nil]; omega) (by simp only [List.length_append, List.length_cons, List.length_nil]; omega) fun v' h5 hov5 gr5 => ?_
      simp (disch := first|exact dis|fail) only [go_sem, simprocAttr, ↓EU_rg, g2, g3, g5, g9, hwi]
      exact ⟨_, by omega, i + 1, _, _, _, _, rfl, rfl, by omega, by simp (disch := first|exact dis|fail) only [go_sem, simprocAttr, ↓EU_rg, g2], by simp (disch := first|exact dis|fail) only [go_sem, simprocAttr, ↓EU_rg, g3], by simp (disch := first|exact dis|fail) only [go_sem, simprocAttr, ↓EU_rg], by simp (disch := first|exact dis|fail) only [go_sem, simprocAttr, ↓EU_rg], hov5, by rw [htk, hw, hacc, List.append_assoc], (gr3.push _).trans gr5⟩
     | true =>
      have hw : gotF m x = [] := by unfold gotF; rw [hq]; rfl
      have hn : decide (idx (byId x.id) m < 0) = false := by rw [idx_neg, hq]; rfl
      simp (disch := first|exact dis|fail) only [go_sem, simprocAttr, ↓EU_rg, g2, g3, g5, g9, hn, hA3, hB3, hr3, hwi]
      exact ⟨_, by omega, i + 1, _, _, _, _, rfl, rfl, by omega, by simp (disch := first|exact dis|fail) only [go_sem, simprocAttr, ↓EU_rg, g2], by simp (disch := first|exact dis|fail) only [go_sem, simprocAttr, ↓EU_rg, g3], by simp (disch := first|exact dis|fail) only [go_sem, simprocAttr, ↓EU_rg, g5], by simp (disch := first|exact dis|fail) only [go_sem, simprocAttr, ↓EU_rg], hov3, by rw [htk, hw, hacc, List.append_nil], gr3⟩
    ·simp only [decide_eq_false_iff_not] at b1
     have : i = l.length := by omega
     subst this
     rw [List.take_length] at hacc
     subst hacc
     simp (disch := first|exact dis|fail) only [go_sem, simprocAttr, ↓EU_rg]
     exact ⟨_, _, _, rfl, trivial, by simp (disch := first|exact dis|fail) only [go_sem, simprocAttr, ↓EU_rg, g2], by simp (disch := first|exact dis|fail) only [go_sem, simprocAttr, ↓EU_rg, g3], by simp (disch := first|exact dis|fail) only [go_sem, simprocAttr, ↓EU_rg, g5], hov, gr⟩
   ·exact ⟨0, _, _, _, W, rfl, rfl, by omega, by simp (disch := first|exact dis|fail) only [go_sem, simprocAttr, ↓EU_rg, g2], by simp (disch := first|exact dis|fail) only [go_sem, simprocAttr, ↓EU_rg, g3], by simp (disch := first|exact dis|fail) only [go_sem, simprocAttr, ↓EU_rg, g5], by simp (disch := first|exact dis|fail) only [go_sem, simprocAttr, ↓EU_rg]; all_goals rfl, hov, by simp, gr⟩
   ·omega
   ·clear hov gr g2 g3 g5 x2 hA
    rintro ⟨q, _⟩ ⟨tm, h2, u, rfl, rfl, g2, g3, g5, hov, gr⟩
    have x2 : Ext h h2 := ⟨Nat.le_trans y1.le gr.le, fun j hj => (gr.old j (Nat.lt_of_lt_of_le hj y1.le) (fun q => by have := hf0 j q; omega)).trans (y1.old j hj)⟩
    have hA : h2.get h.next = .cells [.int .i64 c1, .slice a l.length c] 0 := (gr.old _ (by omega) (fun q => by have := hf0 _ q; omega)).trans hA1
    have hB : h2.get (h.next + 1) = .cells [.int .i64 c2, .slice a2 m.length k2] 0 := (gr.old _ (by omega) (fun q => by have := hf0 _ q; omega)).trans hB1
    have hgl2 := flat_len (gotF m) 1 (fun x => ifF_len _ _) l
    have hdf2 : df = (W ++ l.flatMap (gotF m)) ++ ifF (!decide (c1 = c2)) ⟨12, c1⟩ := by rw [← hdf, ← hW]; rfl
    have hGl : (W ++ l.flatMap (gotF m)).length ≤ 2 * m.length + l.length := by rw [List.length_append]; omega
    generalize hG : W ++ l.flatMap (gotF m) = G at *
    have hfu : Fresh (h.next + 1 + 1) u := gr.fresh hf0 (by omega)
    obtain ⟨au, ku, rfl⟩ := hov.val
    simp (disch := first|exact dis|fail) only [go_sem, simprocAttr, ↓EU_rg, g2, g3, g5, hA, hB]
    cases hd : decide (c1 = c2) with
    | true =>
     rw [hd, Bool.not_true, ifF_f, List.append_nil] at hdf2
     subst hdf2
     simp (disch := first|exact dis|fail) only [go_sem, simprocAttr, ↓EU_rg, hd, g5]
     exact ⟨hov, fun j hj => by have := hfu j hj; omega, x2⟩
    | false =>
     rw [hd, Bool.not_false, ifF_t] at hdf2
     simp (disch := first|exact dis|fail) only [go_sem, simprocAttr, ↓EU_rg, hd, g2, g5, hA]
     repeat refine WPo_ob ?_
     have hlit := OW.lit fltE_len h2 [(⟨12, c1⟩ : Flt)]
     rw [List.flatMap_cons, List.flatMap_nil, List.append_nil] at hlit
     unfold fltE at hlit
     refine append_gr (l := G) (l' := [(⟨12, c1⟩ : Flt)]) fc_ap_62_62 fltE_len (by decide) fltE_scal (hov.ext ((Ext.refl h2).push _)) hlit.sl (by simp only [List.length_append, List.length_cons, List.length_nil]; omega) (by simp only [List.length_append, List.length_cons, List.length_nil]; omega) fun v' h5 hov5 gr5 => ?_
     rw [← hdf2] at hov5
     have hdl : df.length ≤ 2 * m.length + l.length + 1 := by rw [hdf2, List.length_append, List.length_singleton]; omega
     have gr6 := (gr.push (.cells [.int .i64 12, .int .i64 c1] 2)).trans gr5
     obtain ⟨a5, k5, rfl⟩ := hov5.val
     simp (disch := first|exact dis|fail) only [go_sem, simprocAttr, ↓EU_rg]
     exact ⟨hov5, fun j hj => by have := (gr6.fresh hf0 (by omega)) j hj; omega, ⟨Nat.le_trans y1.le gr6.le, fun j hj => (gr6.old j (Nat.lt_of_lt_of_le hj y1.le) (fun q => by have := hf0 j q; omega)).trans (y1.old j hj)⟩⟩
noncomputable def goC : List Nat → Code → Code
 | 0 :: l, .seq a _ => goC l a
 | 1 :: l, .seq _ b => goC l b
 | 2 :: l, .block _ b => goC l b
 | 2 :: l, .loop b => goC l b
 | 2 :: l, .scope b => goC l b
 | 3 :: l, .cond _ a _ => goC l a
 | 4 :: l, .cond _ _ b => goC l b
 | _, c => c
noncomputable def codeAt (P : Program) (f : FuncId) (l : List Nat) : Code := match P.funcs[f]? with
 | some fn => (match fn.body with
  | some c => goC l c
  | none => .skip)
 | none => .skip
theorem EU_at {P : Program} {O : Orc} {bad : List Nat} {ro : Option Nat} {n : Nat} {st : St} {f : FuncId} {fn : Func} {c : Code} {l : List Nat} (hf : P.funcs[f]? = some fn) (hb : fn.body = some c) : EU P O bad ro n (codeAt P f l) st = EU P O bad ro n (goC l c) st := by
 unfold codeAt
 rw [hf]
 show EU P O bad ro n (match fn.body with | some c => goC l c | none => .skip) st = _
 rw [hb]
theorem extM {S : Nat → Prop} {a b c : Heap} (x : Ext a b) (m : Mod S b c) (h : ∀ j, S j → a.next ≤ j) : Ext a c := ⟨Nat.le_trans x.le m.le, fun j hj => (m.old j (Nat.lt_of_lt_of_le hj x.le) fun e => by have := h j e; omega).trans (x.old j hj)⟩
noncomputable def MIDQ (n cb tb : Nat) (tag to : Int) (sl : Value) (i : Nat) (h : Heap) (q : Exit × St) : Prop := ∃ tm h7 s, q = (.normal, ⟨tm, h7, []⟩) ∧ KT cb tb tag to sl s i tm ∧ KP n cb tb tag to (i + 1) s h7 ∧ Ext h h7
structure AC (cb tb : Nat) (tag to : Int) (sl : Value) (i : Nat) (s : PSt) (h h6 : Heap) (tm : Fr) (x : Act22) (b20 : Nat) : Prop where
 kt : KT cb tb tag to sl s i tm
 k6 : KP h.next cb tb tag to i s h6
 x6 : Ext h h6
 g20 : Fr.get tm 20 = ptr b20 0
 hA : h6.get b20 = .cells [.int .i64 x.op, .int .i64 x.at', .int .u8 (x.by'.toNat : Int)] 0
 hB : b20 < h6.next
 tb20 : tb < b20
 bv20 : ∀ j, blkOf s.bv j → j < b20
 hi : i ≤ 40
 htg : tgood tag = true
 hto : tgood to = true
noncomputable abbrev actC : Code := codeAt Tryz.prog 6 [1, 1, 1, 1, 1, 1, 1, 1, 1, 1, 0, 1, 2, 2, 1, 0, 2, 1, 0]
section
variable {cb tb : Nat} {tag to : Int} {sl : Value} {i : Nat} {s : PSt} {h h6 : Heap} {tm : Fr} {x : Act22} {b20 : Nat}
set_option maxHeartbeats 4000000 in
theorem act_step (a : AC cb tb tag to sl i s h h6 tm x b20) (c0 : x.op = 0) : WPo (EU Tryz.prog O0 [46, 79] none 348 actC ⟨tm, h6, []⟩) (MIDQ h.next cb tb tag to sl i h) := by
 rw [EU_at Tryz.func6 rfl]
 simp only [goC]
 obtain ⟨⟨g0, g2, g3, g9, g10, g12, g14, g15, g16, g17, g18, g19⟩, k6, x6, g20, hA, hn6, htb20, hbv20, hi, htg, hto⟩ := a
 have htb : h.next ≤ tb := k6.lo tb (.inr (.inl rfl))
 have h3f := x6.le
 have de : decide ((s.at' : Int) = (s.at' : Int)) = true := decide_eq_true rfl
 have dw : decide (s.why = s.why) = true := decide_eq_true rfl
 have dop : decide (x.op = 0) = true := decide_eq_true c0
 by_cases ha5 : 5 ≤ s.at'
 ·have hS := kpOver k6 ha5
  have d5 : decide ((5 : Int) ≤ (s.at' : Int)) = true := decide_eq_true (by omega)
  simp (maxSteps := 9000000) (disch := first|exact dis|fail) only [go_sem, simprocAttr, ↓EU_rg, g20, hA, g0, g2, g3, g9, g10, g12, g14, g15, g16, g17, g18, g19, dop, hS, d5, de, dw]
  exact ⟨_, _, s, rfl, (by (constructor <;> simp (maxSteps := 9000000) (disch := first|exact dis|fail) only [go_sem, simprocAttr, ↓EU_rg, g20, hA, g0, g2, g3, g9, g10, g12, g14, g15, g16, g17, g18, g19, hS]); all_goals rfl), k6.up, x6⟩
 ·by_cases ha : s.at' = 0
  ·have ha' := ha
   have g14' : Fr.get tm 14 = .int .i64 0 := by rw [g14, ha]; rfl
   have w1 : wrapF .i64 ((0 : Int) + 1) = 1 := rfl
   have wu : wrapF .u64 1 = 1 := rfl
   have hand : ∀ t x y, evBin Tryz.prog .and t x y (.int .i64 ((s.frc >>> 1 : Nat) : Int)) (.int .i64 1) = some (.int .i64 ((s.frc >>> 1 &&& 1 : Nat) : Int)) := fun t x y => and_i64 Tryz.prog t x y (m := 1) (by have := k6.fr; have : s.frc >>> 1 ≤ s.frc := Nat.shiftRight_le _ _; omega) (by decide)
   have hbit := bit_dec s.frc 1
   have d5' : decide ((5 : Int) ≤ 0) = false := rfl
   have d1 : decide ((0 : Int) < 0) = false := rfl
   simp (maxSteps := 9000000) (disch := first|exact dis|fail) only [go_sem, simprocAttr, ↓EU_rg, g20, hA, g12, dop]
   repeat refine WPo_ob ?_
   cases hf : s.frc.testBit 1 with
   | true =>
    refine (kpForced k6 (by omega) (.inl ha) (by rw [ha]; exact hf)).mono ?_
    rintro ⟨w, h7⟩ ⟨e, k7, m7⟩
    simp only at e k7 m7
    subst e
    rw [hf] at hbit
    simp (maxSteps := 9000000) (disch := first|exact dis|fail) only [go_sem, simprocAttr, ↓EU_rg, g20, hA, g0, g2, g3, g9, g10, g12, g14', g15, g16, g17, g18, g19, w1, wu, hand, hbit, d5', d1, Int.reduceEq, decide_true]
    exact ⟨_, _, { s with at' := 6, why := 13 }, rfl, (by (constructor <;> simp (maxSteps := 9000000) (disch := first|exact dis|fail) only [go_sem, simprocAttr, ↓EU_rg, g20, hA, g0, g2, g3, g9, g10, g12, g14, g15, g16, g17, g18, g19, g14']); all_goals rfl), k7.up, extM x6 m7 (fun j e => by subst e; exact htb)⟩
   | false =>
    refine (kp0 k6 ha hf).mono ?_
    rintro ⟨w, h7⟩ ⟨e, k7, m7⟩
    simp only at e k7 m7
    subst e
    rw [hf] at hbit
    rw [k6.wy (by omega)] at g15
    simp (maxSteps := 9000000) (disch := first|exact dis|fail) only [go_sem, simprocAttr, ↓EU_rg, g20, hA, g0, g2, g3, g9, g10, g12, g14', g15, g16, g17, g18, g19, w1, wu, hand, hbit, d5', d1, Int.reduceEq, decide_true]
    exact ⟨_, _, { s with at' := 1, why := 0, tage := s.age, stale := false }, rfl, (by (constructor <;> simp (maxSteps := 9000000) (disch := first|exact dis|fail) only [go_sem, simprocAttr, ↓EU_rg, g20, hA, g0, g2, g3, g9, g10, g12, g14, g15, g16, g17, g18, g19, g14']); all_goals rfl), k7.up, extM x6 m7 (fun j e => by subst e; exact htb)⟩
  ·have d1 : decide (0 < (s.at' : Int)) = true := decide_eq_true (by omega)
   cases hst : s.stale with
   | true =>
    rw [hst] at g17
    have d5 : decide ((5 : Int) ≤ (s.at' : Int)) = false := decide_eq_false (by omega)
    simp (maxSteps := 9000000) (disch := first|exact dis|fail) only [go_sem, simprocAttr, ↓EU_rg, g20, hA, g12, dop]
    repeat refine WPo_ob ?_
    refine (kpStale k6 (by omega) (by omega) hst).mono ?_
    rintro ⟨w, h7⟩ ⟨e, k7, m7⟩
    simp only at e k7 m7
    subst e
    simp (maxSteps := 9000000) (disch := first|exact dis|fail) only [go_sem, simprocAttr, ↓EU_rg, g20, hA, g0, g2, g3, g9, g10, g12, g14, g15, g16, g17, g18, g19, d5, d1, Int.reduceEq, decide_true]
    exact ⟨_, _, { s with at' := 6, why := 12 }, rfl, (by (constructor <;> simp (maxSteps := 9000000) (disch := first|exact dis|fail) only [go_sem, simprocAttr, ↓EU_rg, g20, hA, g0, g2, g3, g9, g10, g12, g14, g15, g16, g17, g18, g19, hst]); all_goals rfl), k7.up, extM x6 m7 (fun j e => by subst e; exact htb)⟩
   | false =>
    rw [hst] at g17
    have hm : s.at' = 1 ∨ s.at' = 2 ∨ s.at' = 3 ∨ s.at' = 4 := by omega
    rcases hm with ha | ha | ha | ha
    ·have ha' := ha
     have g14' : Fr.get tm 14 = .int .i64 1 := by rw [g14, ha]; rfl
     have w1 : wrapF .i64 ((1 : Int) + 1) = 2 := rfl
     have wu : wrapF .u64 2 = 2 := rfl
     have hand : ∀ t x y, evBin Tryz.prog .and t x y (.int .i64 ((s.frc >>> 2 : Nat) : Int)) (.int .i64 1) = some (.int .i64 ((s.frc >>> 2 &&& 1 : Nat) : Int)) := fun t x y => and_i64 Tryz.prog t x y (m := 1) (by have := k6.fr; have : s.frc >>> 2 ≤ s.frc := Nat.shiftRight_le _ _; omega) (by decide)
     have hbit := bit_dec s.frc 2
     have d5' : decide ((5 : Int) ≤ 1) = false := rfl
     have d1 : decide ((0 : Int) < 1) = true := rfl
     simp (maxSteps := 9000000) (disch := first|exact dis|fail) only [go_sem, simprocAttr, ↓EU_rg, g20, hA, g12, dop]
     repeat refine WPo_ob ?_
     cases hf : s.frc.testBit 2 with
     | true =>
      refine (kpForced k6 (by omega) (.inr hst) (by rw [ha]; exact hf)).mono ?_
      rintro ⟨w, h7⟩ ⟨e, k7, m7⟩
      simp only at e k7 m7
      subst e
      rw [hf] at hbit
      simp (maxSteps := 9000000) (disch := first|exact dis|fail) only [go_sem, simprocAttr, ↓EU_rg, g20, hA, g0, g2, g3, g9, g10, g12, g14', g15, g16, g17, g18, g19, w1, wu, hand, hbit, d5', d1, Int.reduceEq, decide_true]
      exact ⟨_, _, { s with at' := 6, why := 13 }, rfl, (by (constructor <;> simp (maxSteps := 9000000) (disch := first|exact dis|fail) only [go_sem, simprocAttr, ↓EU_rg, g20, hA, g0, g2, g3, g9, g10, g12, g14, g15, g16, g17, g18, g19, hst]); all_goals rfl), k7.up, extM x6 m7 (fun j e => by subst e; exact htb)⟩
     | false =>
      refine (kp1 k6 htg ha hst hf).mono ?_
      rintro ⟨w, h7⟩ ⟨e, u, p7, fu, m7⟩
      simp only at e p7 m7
      subst e
      rw [hf] at hbit
      have hl6 := k6.lens
      have hcg1 := k6.cg htg (by omega)
      rw [show ctag tag to s.at' = tag by unfold ctag; rw [if_neg (by omega)]] at hcg1
      simp (maxSteps := 9000000) (disch := first|exact dis|fail) only [go_sem, simprocAttr, ↓EU_rg, g20, hA, g0, g2, g3, g9, g10, g12, g14', g15, g16, g17, g18, g19, w1, wu, hand, hbit, d5', d1, Int.reduceEq, decide_true]
      repeat refine WPo_ob ?_
      refine (rqform_ev p7.rq (by omega) (k6.lg.near (Int.le_refl _))).mono ?_
      rintro ⟨w, h8⟩ ⟨u8, e, o8, f8, x8⟩
      simp only at e o8 x8
      subst e
      have hW8 := rwrite3_ev tag s.cur (s.l.map (itP s.base)) u8 h8 o8.sl (by rw [List.length_map]; omega)
      unfold formV at hW8 ⊢
      simp (maxSteps := 9000000) (disch := first|exact dis|fail) only [go_sem, simprocAttr, ↓EU_rg, g20, hA, g0]
      repeat refine WPo_ob ?_
      refine hW8.mono ?_
      rintro ⟨w, h9⟩ ⟨x9, _, kk⟩
      obtain ⟨u9, e, o9, f9⟩ := kk hcg1
      simp only at e o9 x9
      subst e
      have p9 := (p7.ext x8).ext x9
      have hx9 := ((extM x6 m7 (fun j e => by subst e; exact htb)).trans x8).trans x9
      have hle7 := m7.le
      have hle8 := x8.le
      rw [k6.wy (by omega)] at g15
      have kp9 : KP h.next cb tb tag to i { s with bv := u, rv := u9, at' := 2, why := 0, B := sealN (encF tag s.cur (s.l.map (itP s.base))) } h9 := by
       refine ⟨⟨p9.cq, p9.tl, p9.tg, p9.ob, o9, p9.rq, p9.d1, fun j h1 h2 => ?_⟩, fun j hj => ?_, k6.lg, k6.bs, k6.ag, (by decide : (2 : Nat) ≤ 6), k6.fr, fun _ _ => ?_, ?_, fun _ => rfl, fun h => absurd h (by simp), fun h => absurd h (by simp)⟩
       ·have := p7.ob.lt h1
        have := f9 j h2
        omega
       ·have hlo := k6.lo j
        unfold foot at hlo hj
        rcases hj with e | e | e | e | e | e | e | e | e | e
        ·exact hlo (.inl e)
        ·exact hlo (.inr (.inl e))
        ·exact hlo (.inr (.inr (.inl e)))
        ·exact hlo (.inr (.inr (.inr (.inl e))))
        ·exact hlo (.inr (.inr (.inr (.inr (.inl e)))))
        ·exact hlo (.inr (.inr (.inr (.inr (.inr (.inl e))))))
        ·exact hlo (.inr (.inr (.inr (.inr (.inr (.inr (.inl e)))))))
        ·have := fu j e; omega
        ·have := f9 j e; omega
        ·exact hlo (.inr (.inr (.inr (.inr (.inr (.inr (.inr (.inr (.inr e)))))))))
       ·exact k6.sta (by omega) (by omega)
       ·show (sealN (encF tag s.cur (s.l.map (itP s.base)))).length < 500000
        rw [sealN_len, encF_len, List.length_map]; omega
      simp (maxSteps := 9000000) (disch := first|exact dis|fail) only [go_sem, simprocAttr, ↓EU_rg, g20, hA, g0, g2, g3, g9, g10, g12, g14', g15, g16, g17, g18, g19, Int.reduceEq, decide_true]
      exact ⟨_, _, { s with bv := u, rv := u9, at' := 2, why := 0, B := sealN (encF tag s.cur (s.l.map (itP s.base))) }, rfl, (by (constructor <;> simp (maxSteps := 9000000) (disch := first|exact dis|fail) only [go_sem, simprocAttr, ↓EU_rg, g20, hA, g0, g2, g3, g9, g10, g12, g14, g15, g16, g17, g18, g19, hst]); all_goals rfl), kp9.up, hx9⟩
    ·have ha' := ha
     have g14' : Fr.get tm 14 = .int .i64 2 := by rw [g14, ha]; rfl
     have w1 : wrapF .i64 ((2 : Int) + 1) = 3 := rfl
     have wu : wrapF .u64 3 = 3 := rfl
     have hand : ∀ t x y, evBin Tryz.prog .and t x y (.int .i64 ((s.frc >>> 3 : Nat) : Int)) (.int .i64 1) = some (.int .i64 ((s.frc >>> 3 &&& 1 : Nat) : Int)) := fun t x y => and_i64 Tryz.prog t x y (m := 1) (by have := k6.fr; have : s.frc >>> 3 ≤ s.frc := Nat.shiftRight_le _ _; omega) (by decide)
     have hbit := bit_dec s.frc 3
     have d5' : decide ((5 : Int) ≤ 2) = false := rfl
     have d1 : decide ((0 : Int) < 2) = true := rfl
     simp (maxSteps := 9000000) (disch := first|exact dis|fail) only [go_sem, simprocAttr, ↓EU_rg, g20, hA, g12, dop]
     repeat refine WPo_ob ?_
     cases hf : s.frc.testBit 3 with
     | true =>
      refine (kpForced k6 (by omega) (.inr hst) (by rw [ha]; exact hf)).mono ?_
      rintro ⟨w, h7⟩ ⟨e, k7, m7⟩
      simp only at e k7 m7
      subst e
      rw [hf] at hbit
      simp (maxSteps := 9000000) (disch := first|exact dis|fail) only [go_sem, simprocAttr, ↓EU_rg, g20, hA, g0, g2, g3, g9, g10, g12, g14', g15, g16, g17, g18, g19, w1, wu, hand, hbit, d5', d1, Int.reduceEq, decide_true]
      exact ⟨_, _, { s with at' := 6, why := 13 }, rfl, (by (constructor <;> simp (maxSteps := 9000000) (disch := first|exact dis|fail) only [go_sem, simprocAttr, ↓EU_rg, g20, hA, g0, g2, g3, g9, g10, g12, g14, g15, g16, g17, g18, g19, hst]); all_goals rfl), k7.up, extM x6 m7 (fun j e => by subst e; exact htb)⟩
     | false =>
      refine (kp2 k6 hto (by omega) ha hst hf).mono ?_
      rintro ⟨w, h7⟩ ⟨u, e, k7, m7⟩
      simp only at e k7 m7
      subst e
      rw [hf] at hbit
      simp (maxSteps := 9000000) (disch := first|exact dis|fail) only [go_sem, simprocAttr, ↓EU_rg, g20, hA, g0, g2, g3, g9, g10, g12, g14', g15, g16, g17, g18, g19, w1, wu, hand, hbit, d5', d1, Int.reduceEq, decide_true]
      repeat refine WPo_ob ?_
      refine (rread_ev s.B s.rv h7 k7.ph.orr.sl (by have := k7.bl; simp only at this; omega)).mono ?_
      rintro ⟨w, h8⟩ ⟨u8, e, o8, f8, x8⟩
      simp only at e o8 x8
      subst e
      have k8 := k7.ext x8
      have hx8 := (extM x6 m7 (fun j e => by subst e; exact htb)).trans x8
      by_cases he : (readR s.B).2.2.2.2 = 0
      ·simp only [he, if_true] at k8
       unfold formV
       simp (maxSteps := 9000000) (disch := first|exact dis|fail) only [go_sem, simprocAttr, ↓EU_rg, g20, hA, g0, g2, g3, g9, g10, g12, g14', g15, g16, g17, g18, g19, he, if_true, Int.reduceEq, decide_true]
       exact ⟨_, _, { s with at' := 3, why := 0, qv := u }, rfl, (by (constructor <;> simp (maxSteps := 9000000) (disch := first|exact dis|fail) only [go_sem, simprocAttr, ↓EU_rg, g20, hA, g0, g2, g3, g9, g10, g12, g14, g15, g16, g17, g18, g19, hst]); all_goals rfl), k8.up, hx8⟩
      ·have d6 : decide ((readR s.B).2.2.2.2 = 0) = false := decide_eq_false he
       have d7 : decide ((readR s.B).2.2.2.2 = (readR s.B).2.2.2.2) = true := decide_eq_true rfl
       simp only [he, if_false] at k8
       unfold formV
       simp (maxSteps := 9000000) (disch := first|exact dis|fail) only [go_sem, simprocAttr, ↓EU_rg, g20, hA, g0, g2, g3, g9, g10, g12, g14', g15, g16, g17, g18, g19, if_neg he, d6, d7, Int.reduceEq, decide_true]
       exact ⟨_, _, { s with at' := 6, why := (readR s.B).2.2.2.2, qv := u }, rfl, (by (constructor <;> simp (maxSteps := 9000000) (disch := first|exact dis|fail) only [go_sem, simprocAttr, ↓EU_rg, g20, hA, g0, g2, g3, g9, g10, g12, g14, g15, g16, g17, g18, g19, hst]); all_goals rfl), k8.up, hx8⟩
    ·have ha' := ha
     have g14' : Fr.get tm 14 = .int .i64 3 := by rw [g14, ha]; rfl
     have w1 : wrapF .i64 ((3 : Int) + 1) = 4 := rfl
     have wu : wrapF .u64 4 = 4 := rfl
     have hand : ∀ t x y, evBin Tryz.prog .and t x y (.int .i64 ((s.frc >>> 4 : Nat) : Int)) (.int .i64 1) = some (.int .i64 ((s.frc >>> 4 &&& 1 : Nat) : Int)) := fun t x y => and_i64 Tryz.prog t x y (m := 1) (by have := k6.fr; have : s.frc >>> 4 ≤ s.frc := Nat.shiftRight_le _ _; omega) (by decide)
     have hbit := bit_dec s.frc 4
     have d5' : decide ((5 : Int) ≤ 3) = false := rfl
     have d1 : decide ((0 : Int) < 3) = true := rfl
     simp (maxSteps := 9000000) (disch := first|exact dis|fail) only [go_sem, simprocAttr, ↓EU_rg, g20, hA, g12, dop]
     repeat refine WPo_ob ?_
     cases hf : s.frc.testBit 4 with
     | true =>
      refine (kpForced k6 (by omega) (.inr hst) (by rw [ha]; exact hf)).mono ?_
      rintro ⟨w, h7⟩ ⟨e, k7, m7⟩
      simp only at e k7 m7
      subst e
      rw [hf] at hbit
      simp (maxSteps := 9000000) (disch := first|exact dis|fail) only [go_sem, simprocAttr, ↓EU_rg, g20, hA, g0, g2, g3, g9, g10, g12, g14', g15, g16, g17, g18, g19, w1, wu, hand, hbit, d5', d1, Int.reduceEq, decide_true]
      exact ⟨_, _, { s with at' := 6, why := 13 }, rfl, (by (constructor <;> simp (maxSteps := 9000000) (disch := first|exact dis|fail) only [go_sem, simprocAttr, ↓EU_rg, g20, hA, g0, g2, g3, g9, g10, g12, g14, g15, g16, g17, g18, g19, hst]); all_goals rfl), k7.up, extM x6 m7 (fun j e => by subst e; exact htb)⟩
     | false =>
      refine (kp3 k6 ha hst hf).mono ?_
      rintro ⟨w, h7⟩ kk
      obtain ⟨e, k7, m7⟩ := kk _ rfl
      simp only at e k7 m7
      subst e
      rw [hf] at hbit
      have hl6 := k6.lens
      have hrl := readR_len s.B
      rw [k6.wy (by omega)] at g15
      simp (maxSteps := 9000000) (disch := first|exact dis|fail) only [go_sem, simprocAttr, ↓EU_rg, g20, hA, g0, g2, g3, g9, g10, g12, g14', g15, g16, g17, g18, g19, w1, wu, hand, hbit, d5', d1, Int.reduceEq, decide_true]
      repeat refine WPo_ob ?_
      refine (rread_ev s.B s.rv h7 k7.ph.orr.sl (by have := k7.bl; simp only at this; omega)).mono ?_
      rintro ⟨w, h8⟩ ⟨u8, e, o8, f8, x8⟩
      simp only at e o8 x8
      subst e
      unfold formV
      generalize hrc : (readR s.B).2.2.1 = rc at *
      generalize hrr : (readR s.B).2.2.2.1 = rl at *
      generalize hr1 : (readR s.B).1 = r1 at *
      generalize hr2 : (readR s.B).2.1 = r2 at *
      generalize hr5 : (readR s.B).2.2.2.2 = r5 at *
      obtain ⟨a8, c8, e⟩ := o8.val
      subst e
      simp (maxSteps := 9000000) (disch := first|exact dis|fail) only [go_sem, simprocAttr, ↓EU_rg, g20, hA, g0, g2, g3, g9, g10, g12, g14', g15, g16, g17, g18, g19]
      have xq := (Ext.refl h8).push (.cells [.int .i64 rc, .slice a8 rl.length c8] 0)
      have hB8 : (h8.push (.cells [.int .i64 rc, .slice a8 rl.length c8] 0)).get h8.next = .cells [.int .i64 rc, .slice a8 rl.length c8] 0 := get_push_new _ _
      have hn8 : h8.next < (h8.push (.cells [.int .i64 rc, .slice a8 rl.length c8] 0)).next := by rw [next_push]; omega
      rw [EU_bad _ _ rfl, EC_tab (tab := [(false, (some (0, 1))), (false, none), (true, none), (true, none), (false, none), (false, none)]) (by kernel_rfl)]
      simp (disch := first|exact dis|fail) only [go_sem, simprocAttr, ↓EU_rg, g10, hB8]
      generalize h8.push (.cells [.int .i64 rc, .slice a8 rl.length c8] 0) = h9 at *
      have k9 := (k7.ext x8).ext xq
      repeat refine WPo_ob ?_
      refine (rqform_ev k9.ph.rq (by show s.l.length < 900000; omega) (k6.lg.near (Int.le_refl _))).mono ?_
      rintro ⟨w, h10⟩ ⟨u10, e, o10, f10, x10⟩
      simp only at e o10 x10
      subst e
      have hF10 := rfaults_ev rc s.cur rl (s.l.map (itP s.base)) (.slice a8 rl.length c8) u10 h10 ((o8.ext xq).ext x10).sl o10.sl (by omega) (by rw [List.length_map]; omega)
      have hv8 := (o8.ext xq).veq
      have hB10 := (x10.old h8.next hn8).trans hB8
      unfold formV at hF10 ⊢
      simp (disch := first|exact dis|fail) only [go_sem, simprocAttr, ↓EU_rg, g10]
      repeat refine WPo_ob ?_
      refine hF10.mono ?_
      rintro ⟨w, h11⟩ ⟨o11, f11, x11⟩
      simp only at o11 x11
      generalize faultsF rc rl s.cur (s.l.map (itP s.base)) = F at *
      obtain ⟨a11, c11, e⟩ := o11.val
      subst e
      have hB11 := (x11.old h8.next (Nat.lt_of_lt_of_le hn8 x10.le)).trans hB10
      have k11 := (k9.ext x10).ext x11
      have hx11 := ((((extM x6 m7 (fun j e => by subst e; exact htb)).trans x8).trans xq).trans x10).trans x11
      have hvL : veqL [.int .i64 rc, .slice a8 rl.length c8] [.int .i64 rc, .slice a8 rl.length c8] = true := by
       show ((decide (IntKind.i64 = IntKind.i64) && decide (rc = rc)) && (veq (.slice a8 rl.length c8) (.slice a8 rl.length c8) && true)) = true
       rw [hv8, decide_eq_true rfl, decide_eq_true rfl]; rfl
      by_cases hF0 : F = []
      ·subst hF0
       have d8 : decide ((0 : Int) < ((0 : Nat) : Int)) = false := rfl
       simp only [if_true] at k11
       simp (maxSteps := 9000000) (disch := first|exact dis|fail) only [go_sem, simprocAttr, ↓EU_rg, g20, hA, g0, g2, g3, g9, g10, g12, g14', g15, g16, g17, g18, g19, hB8, hB10, hB11, hvL, d8, if_true, Int.reduceEq, decide_true]
       exact ⟨_, _, { s with at' := 4, why := 0 }, rfl, (by (constructor <;> simp (maxSteps := 9000000) (disch := first|exact dis|fail) only [go_sem, simprocAttr, ↓EU_rg, g20, hA, g0, g2, g3, g9, g10, g12, g14, g15, g16, g17, g18, g19, hst]); all_goals rfl), k11.up, hx11⟩
      ·have d8 : decide ((0 : Int) < (F.length : Int)) = true := decide_eq_true (by have : F.length ≠ 0 := fun e => hF0 (List.length_eq_zero_iff.1 e); omega)
       simp only [if_neg hF0] at k11
       simp (maxSteps := 9000000) (disch := first|exact dis|fail) only [go_sem, simprocAttr, ↓EU_rg, g20, hA, g0, g2, g3, g9, g10, g12, g14', g15, g16, g17, g18, g19, hB8, hB10, hB11, hvL, d8, if_neg hF0, Int.reduceEq, decide_true]
       exact ⟨_, _, { s with at' := 6, why := 11 }, rfl, (by (constructor <;> simp (maxSteps := 9000000) (disch := first|exact dis|fail) only [go_sem, simprocAttr, ↓EU_rg, g20, hA, g0, g2, g3, g9, g10, g12, g14, g15, g16, g17, g18, g19, hst]); all_goals rfl), k11.up, hx11⟩
    ·have ha' := ha
     have g14' : Fr.get tm 14 = .int .i64 4 := by rw [g14, ha]; rfl
     have w1 : wrapF .i64 ((4 : Int) + 1) = 5 := rfl
     have wu : wrapF .u64 5 = 5 := rfl
     have hand : ∀ t x y, evBin Tryz.prog .and t x y (.int .i64 ((s.frc >>> 5 : Nat) : Int)) (.int .i64 1) = some (.int .i64 ((s.frc >>> 5 &&& 1 : Nat) : Int)) := fun t x y => and_i64 Tryz.prog t x y (m := 1) (by have := k6.fr; have : s.frc >>> 5 ≤ s.frc := Nat.shiftRight_le _ _; omega) (by decide)
     have hbit := bit_dec s.frc 5
     have d5' : decide ((5 : Int) ≤ 4) = false := rfl
     have d1 : decide ((0 : Int) < 4) = true := rfl
     simp (maxSteps := 9000000) (disch := first|exact dis|fail) only [go_sem, simprocAttr, ↓EU_rg, g20, hA, g12, dop]
     repeat refine WPo_ob ?_
     cases hf : s.frc.testBit 5 with
     | true =>
      refine (kpForced k6 (by omega) (.inr hst) (by rw [ha]; exact hf)).mono ?_
      rintro ⟨w, h7⟩ ⟨e, k7, m7⟩
      simp only at e k7 m7
      subst e
      rw [hf] at hbit
      simp (maxSteps := 9000000) (disch := first|exact dis|fail) only [go_sem, simprocAttr, ↓EU_rg, g20, hA, g0, g2, g3, g9, g10, g12, g14', g15, g16, g17, g18, g19, w1, wu, hand, hbit, d5', d1, Int.reduceEq, decide_true]
      exact ⟨_, _, { s with at' := 6, why := 13 }, rfl, (by (constructor <;> simp (maxSteps := 9000000) (disch := first|exact dis|fail) only [go_sem, simprocAttr, ↓EU_rg, g20, hA, g0, g2, g3, g9, g10, g12, g14, g15, g16, g17, g18, g19, hst]); all_goals rfl), k7.up, extM x6 m7 (fun j e => by subst e; exact htb)⟩
     | false =>
      refine (kp4 k6 hto (by omega) ha hst hf).mono ?_
      rintro ⟨w, h7⟩ ⟨e, rq7, m7, qb2, lb2, v2, mk⟩
      simp only at e rq7 m7 mk
      subst e
      rw [hf] at hbit
      have hl6 := k6.lens
      rw [k6.wy (by omega)] at g15
      simp (maxSteps := 9000000) (disch := first|exact dis|fail) only [go_sem, simprocAttr, ↓EU_rg, g20, hA, g0, g2, g3, g9, g10, g12, g14', g15, g16, g17, g18, g19, w1, wu, hand, hbit, d5', d1, Int.reduceEq, decide_true]
      repeat refine WPo_ob ?_
      refine (rqform_ev rq7 (by omega) (k6.lg.near (Int.le_refl _))).mono ?_
      rintro ⟨w, h8⟩ ⟨u8, e, o8, f8, x8⟩
      simp only at e o8 x8
      subst e
      have hS8 := rqseed_ev to 0 s.cur (s.l.map (itP s.base)) u8 h8 o8.sl (by rw [List.length_map]; omega)
      unfold formV at hS8 ⊢
      simp (maxSteps := 9000000) (disch := first|exact dis|fail) only [go_sem, simprocAttr, ↓EU_rg, g20, hA, g2]
      repeat refine WPo_ob ?_
      refine hS8.mono ?_
      rintro ⟨w, h9⟩ ⟨x9, kk⟩
      rw [show (tgood to && (bgood 0 && goodF s.cur (s.l.map (itP s.base)))) = true by rw [hto, k6.good]; rfl, if_pos rfl] at kk
      obtain ⟨wb9, wv9, e, rq9, hwb9, fw9⟩ := kk
      simp only at e rq9 x9
      subst e
      have hle8 := x8.le
      have k9 := mk h9 wb9 wv9 (x8.trans x9) rq9 (Nat.le_trans hle8 hwb9) (fw9.mono hle8)
      have hcb : h.next ≤ cb := k6.lo cb (.inl rfl)
      have hx9 := ((extM x6 m7 (fun j e => by rcases e with e | e <;> subst e <;> assumption)).trans x8).trans x9
      simp (maxSteps := 9000000) (disch := first|exact dis|fail) only [go_sem, simprocAttr, ↓EU_rg, g20, hA, g0, g2, g3, g9, g10, g12, g14', g15, g16, g17, g18, g19, Int.reduceEq, decide_true]
      exact ⟨_, _, { s with qb := qb2, lb := lb2, v := v2, wb := wb9, wv := wv9, base := 0, l := (s.l.map (itP s.base)).map (ptI 0), at' := 5, why := 0 }, rfl, (by (constructor <;> simp (maxSteps := 9000000) (disch := first|exact dis|fail) only [go_sem, simprocAttr, ↓EU_rg, g20, hA, g0, g2, g3, g9, g10, g12, g14, g15, g16, g17, g18, g19, hst]); all_goals rfl), k9.up, hx9⟩
end
section
variable {cb tb : Nat} {tag to : Int} {sl : Value} {i : Nat} {s : PSt} {h h6 : Heap} {tm : Fr} {x : Act22} {b20 : Nat}
set_option maxHeartbeats 4000000 in
theorem act_abort (a : AC cb tb tag to sl i s h h6 tm x b20) (c0 : x.op ≠ 0) (c1 : x.op = 1) : WPo (EU Tryz.prog O0 [46, 79] none 348 actC ⟨tm, h6, []⟩) (MIDQ h.next cb tb tag to sl i h) := by
 rw [EU_at Tryz.func6 rfl]
 simp only [goC]
 obtain ⟨⟨g0, g2, g3, g9, g10, g12, g14, g15, g16, g17, g18, g19⟩, k6, x6, g20, hA, hn6, htb20, hbv20, hi, htg, hto⟩ := a
 have htb : h.next ≤ tb := k6.lo tb (.inr (.inl rfl))
 have h3f := x6.le
 have de : decide ((s.at' : Int) = (s.at' : Int)) = true := decide_eq_true rfl
 have dw : decide (s.why = s.why) = true := decide_eq_true rfl
 have dn0 : decide (x.op = 0) = false := decide_eq_false c0
 have dn1 : decide (x.op = 1) = true := decide_eq_true c1
 have hAb := stageAbort_ev k6.ph.tg
 by_cases ha5 : 5 ≤ s.at'
 ·have d5 : decide ((s.at' : Int) < 5) = false := decide_eq_false (by omega)
  rw [if_pos (by omega), d5] at hAb
  simp (maxSteps := 9000000) (disch := first|exact dis|fail) only [go_sem, simprocAttr, ↓EU_rg, g20, hA, g0, g2, g3, g9, g10, g12, g14, g15, g16, g17, g18, g19, dn0, dn1, hAb, d5, bne_self_eq_false]
  exact ⟨_, _, s, rfl, (by (constructor <;> simp (maxSteps := 9000000) (disch := first|exact dis|fail) only [go_sem, simprocAttr, ↓EU_rg, g20, hA, g0, g2, g3, g9, g10, g12, g14, g15, g16, g17, g18, g19, d5]); all_goals rfl), k6.up, x6⟩
 ·have d5 : decide ((s.at' : Int) < 5) = true := decide_eq_true (by omega)
  rw [if_neg (by omega), d5] at hAb
  have k7 : KP h.next cb tb tag to i { s with at' := 6, why := 13 } (h6.set tb (.cells (tryL cb to 0 6 13 s.tage s.bv s.qv fun j => s.frc.testBit j) 0)) := k6.try_ (setM _ _ _) 13 6 s.tage s.frc s.stale (get_set_same _ _ _) (by unfold ctag; rw [if_neg (by decide), if_neg (by omega)]) (Nat.le_refl _) k6.fr ⟨k6.ag.1.1, k6.ag.1.2.1⟩ (fun _ h => absurd h (by decide)) (fun h => absurd h (by decide)) (fun h => by omega)
  simp (maxSteps := 9000000) (disch := first|exact dis|fail) only [go_sem, simprocAttr, ↓EU_rg, g20, hA, g0, g2, g3, g9, g10, g12, g14, g15, g16, g17, g18, g19, dn0, dn1, hAb, d5, bne_self_eq_false]
  exact ⟨_, _, { s with at' := 6, why := 13 }, rfl, (by (constructor <;> simp (maxSteps := 9000000) (disch := first|exact dis|fail) only [go_sem, simprocAttr, ↓EU_rg, g20, hA, g0, g2, g3, g9, g10, g12, g14, g15, g16, g17, g18, g19, d5]); all_goals rfl), k7.up, extM x6 (setM _ _ _) (fun j e => by subst e; exact htb)⟩
set_option maxHeartbeats 4000000 in
theorem act_spoil (a : AC cb tb tag to sl i s h h6 tm x b20) (c0 : x.op ≠ 0) (c1 : x.op ≠ 1) (c2 : x.op = 2) : WPo (EU Tryz.prog O0 [46, 79] none 348 actC ⟨tm, h6, []⟩) (MIDQ h.next cb tb tag to sl i h) := by
 rw [EU_at Tryz.func6 rfl]
 simp only [goC]
 obtain ⟨⟨g0, g2, g3, g9, g10, g12, g14, g15, g16, g17, g18, g19⟩, k6, x6, g20, hA, hn6, htb20, hbv20, hi, htg, hto⟩ := a
 have htb : h.next ≤ tb := k6.lo tb (.inr (.inl rfl))
 have h3f := x6.le
 have de : decide ((s.at' : Int) = (s.at' : Int)) = true := decide_eq_true rfl
 have dw : decide (s.why = s.why) = true := decide_eq_true rfl
 have dn0 : decide (x.op = 0) = false := decide_eq_false c0
 have dn1 : decide (x.op = 1) = false := decide_eq_false c1
 have dn2 : decide (x.op = 2) = true := decide_eq_true c2
 have hSp := spoil_ev k6.ph.tg k6.ph.ob (by have := k6.bl; omega) x.at' x.by'
 obtain ⟨ar, cr, er⟩ := k6.ph.orr.val
 rw [er] at g18
 by_cases cc : s.at' = 2 ∧ 0 ≤ x.at' ∧ x.at' < (s.B.length : Int)
 ·obtain ⟨cc1, cc2, cc3⟩ := cc
  have f1 : decide ((s.at' : Int) = 2) = true := decide_eq_true (by omega)
  have f2 : decide (0 ≤ x.at') = true := decide_eq_true cc2
  have f3 : decide (x.at' < (s.B.length : Int)) = true := decide_eq_true cc3
  have hcan : canAt (s.at' : Int) s.B.length x.at' = true := by unfold canAt; rw [f1, f2, f3]; rfl
  rw [hcan] at hSp
  obtain ⟨n, hn⟩ : ∃ n : Nat, x.at' = n := ⟨x.at'.toNat, by omega⟩
  rw [hn] at hSp hA f2 f3
  have hnl : n < s.B.length := by omega
  simp (maxSteps := 9000000) (disch := first|exact dis|fail) only [go_sem, simprocAttr, ↓EU_rg, g20, hA, g0, g12, g14, g18, dn0, dn1, dn2, hA, f1, f2, f3]
  repeat refine WPo_ob ?_
  refine hSp.mono ?_
  rintro ⟨w, h7⟩ ⟨e, k7⟩
  simp only at e k7
  rw [if_pos trivial, toNat_nat] at k7
  obtain ⟨ob7, m7⟩ := k7
  subst e
  have p6 := k6.ph
  obtain ⟨cq7, tl7, tg7, rq7⟩ := p6.bytes p6.ob m7
  have or7 := p6.orr.mod m7 fun j hj e => p6.d2 j e hj
  have p7 : PH h7 cb tb s.qb s.lb s.mb s.wb s.v s.bv s.rv s.wv (ctag tag to s.at') to s.base s.cur s.l s.idle s.age (s.at' : Int) s.why s.tage s.qv (fun j => s.frc.testBit j) (xorL s.B n x.by') s.B := ⟨cq7, tl7, tg7, ob7, or7, rq7, p6.d1, p6.d2⟩
  have hA7 := (m7.old b20 hn6 fun e => by have := hbv20 _ e; omega).trans hA
  obtain ⟨y, hy⟩ : ∃ y, s.B[n]? = some y := ⟨_, List.getElem?_eq_getElem hnl⟩
  have hyd : s.B.getD n 0 = y := by rw [List.getD_eq_getElem?_getD, hy]; rfl
  have hxl : xorL s.B n x.by' = s.B.set n (y ^^^ x.by') := by unfold xorL; rw [hyd]
  rw [er] at or7
  obtain ⟨B2, o2, c2', e2, _, hrd2, hr2⟩ := or7.sl.at hy rfl
  cases e2
  have hr0 := hr2 0 _ rfl
  obtain ⟨B3, o3, c3, cs, e3, hB3, hcs, o8, hwr⟩ := or7.put1 byteE_len (y := y ^^^ x.by') (u := .int .u8 ((y.toNat ^^^ x.by'.toNat : Nat) : Int)) (j := 0) hy (by decide) (by unfold byteE; rw [UInt8.toNat_xor]; rfl) rfl
  cases e3
  have hw := hwr h7
  rw [← hcs] at hw
  rw [add_z] at hr0 hw
  have hxor := fun t p q => bin_xorN Tryz.prog t p q (k := .u8) (n := y.toNat) (m := x.by'.toNat) rfl (by have := y.toNat_lt; exact this) (by have := x.by'.toNat_lt; exact this)
  have o8 : OW byteE 1 (h7.set B2 (.cells (cs.set (o2 + n * 1) (.int .u8 ((y.toNat ^^^ x.by'.toNat : Nat) : Int))) 1)) (.slice (some ⟨B2, o2, none⟩) s.B.length cr) (s.B.set n (y ^^^ x.by')) := o8
  have m8 : Mod (blkOf (.slice (some ⟨B2, o2, none⟩) s.B.length cr)) h7 (h7.set B2 (.cells (cs.set (o2 + n * 1) (.int .u8 ((y.toNat ^^^ x.by'.toNat : Nat) : Int))) 1)) := (Mod.refl _ _).set _ _ fun _ => rfl
  rw [← hxl] at o8
  simp (maxSteps := 9000000) (disch := first|exact dis|fail) only [go_sem, simprocAttr, ↓EU_rg, g20, hA, g0, g2, g3, g9, g10, g12, g14, g15, g16, g17, g18, g19, dn0, dn1, hA7, f3, hr0, hxor, hw, bne_self_eq_false]
  generalize h7.set B2 (.cells (cs.set (o2 + n * 1) (.int .u8 ((y.toNat ^^^ x.by'.toNat : Nat) : Int))) 1) = h8 at *
  rw [← er] at o8 m8 g18
  obtain ⟨cq8, tl8, tg8, rq8⟩ := p7.bytes p7.orr m8
  have ob8 := p7.ob.mod m8 fun j hj e => p7.d2 j hj e
  have p8 : PH h8 cb tb s.qb s.lb s.mb s.wb s.v s.bv s.rv s.wv (ctag tag to s.at') to s.base s.cur s.l s.idle s.age (s.at' : Int) s.why s.tage s.qv (fun j => s.frc.testBit j) (xorL s.B n x.by') (xorL s.B n x.by') := ⟨cq8, tl8, tg8, ob8, o8, rq8, p7.d1, p7.d2⟩
  have k8 : KP h.next cb tb tag to i { s with B := xorL s.B n x.by' } h8 := ⟨p8, k6.lo, k6.lg, k6.bs, k6.ag, k6.a6, k6.fr, k6.sta, (by have := k6.bl; unfold xorL; rw [List.length_set]; exact this), k6.wy, fun h => absurd h (by show ¬ (s.at' = 3 ∨ s.at' = 4); omega), fun h => absurd h (by show ¬ s.at' = 4; omega)⟩
  have hlob : ∀ j, blkOf s.bv j → h.next ≤ j := fun j e => k6.lo j (.inr (.inr (.inr (.inr (.inr (.inr (.inr (.inl e))))))))
  have hlor : ∀ j, blkOf s.rv j → h.next ≤ j := fun j e => k6.lo j (.inr (.inr (.inr (.inr (.inr (.inr (.inr (.inr (.inl e)))))))))
  exact ⟨_, _, { s with B := xorL s.B n x.by' }, rfl, (by (constructor <;> simp (maxSteps := 9000000) (disch := first|exact dis|fail) only [go_sem, simprocAttr, ↓EU_rg, g20, hA, g0, g2, g3, g9, g10, g12, g14, g15, g16, g17, g18, g19]); all_goals rfl), k8.up, extM (extM x6 m7 hlob) m8 hlor⟩
 ·have hcan : canAt (s.at' : Int) s.B.length x.at' = false := by
   unfold canAt
   simp only [Bool.and_eq_false_iff, decide_eq_false_iff_not]
   omega
  rw [hcan] at hSp
  have g18' : Fr.get tm 18 = s.rv := by rw [er]; exact g18
  by_cases e1 : s.at' = 2
  ·have f1 : decide ((s.at' : Int) = 2) = true := decide_eq_true (by omega)
   by_cases e2 : 0 ≤ x.at'
   ·have f2 : decide (0 ≤ x.at') = true := decide_eq_true e2
    have f3 : decide (x.at' < (s.B.length : Int)) = false := decide_eq_false (by omega)
    simp (maxSteps := 9000000) (disch := first|exact dis|fail) only [go_sem, simprocAttr, ↓EU_rg, g20, hA, g0, g12, g14, g18, dn0, dn1, dn2, hA, f1, f2, f3]
    repeat refine WPo_ob ?_
    refine hSp.mono ?_
    rintro ⟨w, h7⟩ ⟨e, e7⟩
    simp only at e e7
    rw [if_neg (by decide)] at e7
    subst e e7
    simp (maxSteps := 9000000) (disch := first|exact dis|fail) only [go_sem, simprocAttr, ↓EU_rg, g20, hA, g0, g2, g3, g9, g10, g12, g14, g15, g16, g17, g18, g19, dn0, dn1, bne_self_eq_false]
    exact ⟨_, _, s, rfl, (by (constructor <;> simp (maxSteps := 9000000) (disch := first|exact dis|fail) only [go_sem, simprocAttr, ↓EU_rg, g20, hA, g0, g2, g3, g9, g10, g12, g14, g15, g16, g17, g18', g19]); all_goals rfl), k6.up, x6⟩
   ·have f2 : decide (0 ≤ x.at') = false := decide_eq_false e2
    simp (maxSteps := 9000000) (disch := first|exact dis|fail) only [go_sem, simprocAttr, ↓EU_rg, g20, hA, g0, g12, g14, g18, dn0, dn1, dn2, hA, f1, f2]
    repeat refine WPo_ob ?_
    refine hSp.mono ?_
    rintro ⟨w, h7⟩ ⟨e, e7⟩
    simp only at e e7
    rw [if_neg (by decide)] at e7
    subst e e7
    simp (maxSteps := 9000000) (disch := first|exact dis|fail) only [go_sem, simprocAttr, ↓EU_rg, g20, hA, g0, g2, g3, g9, g10, g12, g14, g15, g16, g17, g18, g19, dn0, dn1, bne_self_eq_false]
    exact ⟨_, _, s, rfl, (by (constructor <;> simp (maxSteps := 9000000) (disch := first|exact dis|fail) only [go_sem, simprocAttr, ↓EU_rg, g20, hA, g0, g2, g3, g9, g10, g12, g14, g15, g16, g17, g18', g19]); all_goals rfl), k6.up, x6⟩
  ·have f1 : decide ((s.at' : Int) = 2) = false := decide_eq_false (by omega)
   simp (maxSteps := 9000000) (disch := first|exact dis|fail) only [go_sem, simprocAttr, ↓EU_rg, g20, hA, g0, g12, g14, g18, dn0, dn1, dn2, hA, f1]
   repeat refine WPo_ob ?_
   refine hSp.mono ?_
   rintro ⟨w, h7⟩ ⟨e, e7⟩
   simp only at e e7
   rw [if_neg (by decide)] at e7
   subst e e7
   simp (maxSteps := 9000000) (disch := first|exact dis|fail) only [go_sem, simprocAttr, ↓EU_rg, g20, hA, g0, g2, g3, g9, g10, g12, g14, g15, g16, g17, g18, g19, dn0, dn1, bne_self_eq_false]
   exact ⟨_, _, s, rfl, (by (constructor <;> simp (maxSteps := 9000000) (disch := first|exact dis|fail) only [go_sem, simprocAttr, ↓EU_rg, g20, hA, g0, g2, g3, g9, g10, g12, g14, g15, g16, g17, g18', g19]); all_goals rfl), k6.up, x6⟩
set_option maxHeartbeats 4000000 in
theorem act_cut (a : AC cb tb tag to sl i s h h6 tm x b20) (c0 : x.op ≠ 0) (c1 : x.op ≠ 1) (c2 : x.op ≠ 2) (c3 : x.op = 3) : WPo (EU Tryz.prog O0 [46, 79] none 348 actC ⟨tm, h6, []⟩) (MIDQ h.next cb tb tag to sl i h) := by
 rw [EU_at Tryz.func6 rfl]
 simp only [goC]
 obtain ⟨⟨g0, g2, g3, g9, g10, g12, g14, g15, g16, g17, g18, g19⟩, k6, x6, g20, hA, hn6, htb20, hbv20, hi, htg, hto⟩ := a
 have htb : h.next ≤ tb := k6.lo tb (.inr (.inl rfl))
 have h3f := x6.le
 have de : decide ((s.at' : Int) = (s.at' : Int)) = true := decide_eq_true rfl
 have dw : decide (s.why = s.why) = true := decide_eq_true rfl
 have dn0 : decide (x.op = 0) = false := decide_eq_false c0
 have dn1 : decide (x.op = 1) = false := decide_eq_false c1
 have dn2 : decide (x.op = 2) = false := decide_eq_false c2
 have dn3 : decide (x.op = 3) = true := decide_eq_true c3
 have hSp := cut_ev' k6.ph.tg k6.ph.ob (by have := k6.bl; omega) x.at'
 obtain ⟨ar, cr, er⟩ := k6.ph.orr.val
 rw [er] at g18
 by_cases cc : s.at' = 2 ∧ 1 ≤ x.at' ∧ x.at' ≤ (s.B.length : Int)
 ·obtain ⟨cc1, cc2, cc3⟩ := cc
  have f1 : decide ((s.at' : Int) = 2) = true := decide_eq_true (by omega)
  have f2 : decide (1 ≤ x.at') = true := decide_eq_true cc2
  have f3 : decide (x.at' ≤ (s.B.length : Int)) = true := decide_eq_true cc3
  have hcan : canCut (s.at' : Int) s.B.length x.at' = true := by unfold canCut; rw [f1, f2, f3]; rfl
  rw [hcan] at hSp
  obtain ⟨n, hn⟩ : ∃ n : Nat, x.at' = n := ⟨x.at'.toNat, by omega⟩
  rw [hn] at hSp hA f2 f3
  have hbl6 := k6.bl
  simp (maxSteps := 9000000) (disch := first|exact dis|fail) only [go_sem, simprocAttr, ↓EU_rg, g20, hA, g0, g12, g14, g18, dn0, dn1, dn2, dn3, hA, f1, f2, f3]
  repeat refine WPo_ob ?_
  refine hSp.mono ?_
  rintro ⟨w, h7⟩ ⟨e, k7⟩
  simp only at e k7
  rw [if_pos trivial, toNat_nat] at k7
  obtain ⟨u, e7, ob7, hub⟩ := k7
  subst e
  have p6 := k6.ph
  have m7 : Mod (fun j => j = tb) h6 h7 := by rw [e7]; exact setM _ _ _
  have ht7 : h7.get tb = .cells (tryL cb to 0 (s.at' : Int) s.why s.tage u s.qv fun j => s.frc.testBit j) 0 := by rw [e7]; exact get_set_same _ _ _
  have p7 := p6.tryB m7 ht7 ob7 fun j hj e => p6.d2 j (hub j hj) e
  have hA7 := (m7.old b20 hn6 fun e => by omega).trans hA
  have or7 := p7.orr
  rw [er] at or7
  obtain ⟨y, hy⟩ : ∃ y, s.B[0]? = some y := ⟨_, List.getElem?_eq_getElem (by omega)⟩
  obtain ⟨B2, o2, c2', e2, _, hrd2, hr2⟩ := or7.sl.at hy rfl
  cases e2
  have hsub : wrapF .i64 ((s.B.length : Int) - (n : Int)) = ((s.B.length - n : Nat) : Int) := by rw [wrap64 (by omega)]; omega
  have hct := cut_own (P := Tryz.prog) (t := 37) fc_sl_37 or7 .i64 (i := s.B.length - n) (by omega)
  have ot := or7.take (i := s.B.length - n) (by omega)
  have k8 : KP h.next cb tb tag to i { s with bv := u, rv := .slice (some ⟨B2, o2, none⟩) (s.B.length - n) cr, B := s.B.take (s.B.length - n) } h7 := by
   refine ⟨⟨p7.cq, p7.tl, p7.tg, ob7, ot, p7.rq, p7.d1, fun j h1 h2 => p7.d2 j h1 (by rw [er]; exact h2)⟩, fun j hj => ?_, k6.lg, k6.bs, k6.ag, k6.a6, k6.fr, k6.sta, (by show (s.B.take (s.B.length - n)).length < 500000; rw [List.length_take]; omega), k6.wy, fun h => absurd h (by show ¬ (s.at' = 3 ∨ s.at' = 4); omega), fun h => absurd h (by show ¬ s.at' = 4; omega)⟩
   have hlo := k6.lo j
   unfold foot at hlo hj
   rcases hj with e | e | e | e | e | e | e | e | e | e
   ·exact hlo (.inl e)
   ·exact hlo (.inr (.inl e))
   ·exact hlo (.inr (.inr (.inl e)))
   ·exact hlo (.inr (.inr (.inr (.inl e))))
   ·exact hlo (.inr (.inr (.inr (.inr (.inl e)))))
   ·exact hlo (.inr (.inr (.inr (.inr (.inr (.inl e))))))
   ·exact hlo (.inr (.inr (.inr (.inr (.inr (.inr (.inl e)))))))
   ·exact hlo (.inr (.inr (.inr (.inr (.inr (.inr (.inr (.inl (hub j e)))))))))
   ·exact hlo (.inr (.inr (.inr (.inr (.inr (.inr (.inr (.inr (.inl (by rw [er]; exact e))))))))))
   ·exact hlo (.inr (.inr (.inr (.inr (.inr (.inr (.inr (.inr (.inr e)))))))))
  simp (maxSteps := 9000000) (disch := first|exact dis|fail) only [go_sem, simprocAttr, ↓EU_rg, g20, hA, g0, g2, g3, g9, g10, g12, g14, g15, g16, g17, g18, g19, dn0, dn1, hA7, f3, hsub, hct, bne_self_eq_false]
  exact ⟨_, _, { s with bv := u, rv := .slice (some ⟨B2, o2, none⟩) (s.B.length - n) cr, B := s.B.take (s.B.length - n) }, rfl, (by (constructor <;> simp (maxSteps := 9000000) (disch := first|exact dis|fail) only [go_sem, simprocAttr, ↓EU_rg, g20, hA, g0, g2, g3, g9, g10, g12, g14, g15, g16, g17, g18, g19]); all_goals rfl), k8.up, extM x6 m7 (fun j e => by subst e; exact htb)⟩
 ·have hcan : canCut (s.at' : Int) s.B.length x.at' = false := by
   unfold canCut
   simp only [Bool.and_eq_false_iff, decide_eq_false_iff_not]
   omega
  rw [hcan] at hSp
  have g18' : Fr.get tm 18 = s.rv := by rw [er]; exact g18
  by_cases e1 : s.at' = 2
  ·have f1 : decide ((s.at' : Int) = 2) = true := decide_eq_true (by omega)
   by_cases e2 : 1 ≤ x.at'
   ·have f2 : decide (1 ≤ x.at') = true := decide_eq_true e2
    have f3 : decide (x.at' ≤ (s.B.length : Int)) = false := decide_eq_false (by omega)
    simp (maxSteps := 9000000) (disch := first|exact dis|fail) only [go_sem, simprocAttr, ↓EU_rg, g20, hA, g0, g12, g14, g18, dn0, dn1, dn2, dn3, hA, f1, f2, f3]
    repeat refine WPo_ob ?_
    refine hSp.mono ?_
    rintro ⟨w, h7⟩ ⟨e, e7⟩
    simp only at e e7
    rw [if_neg (by decide)] at e7
    subst e e7
    simp (maxSteps := 9000000) (disch := first|exact dis|fail) only [go_sem, simprocAttr, ↓EU_rg, g20, hA, g0, g2, g3, g9, g10, g12, g14, g15, g16, g17, g18, g19, dn0, dn1, bne_self_eq_false]
    exact ⟨_, _, s, rfl, (by (constructor <;> simp (maxSteps := 9000000) (disch := first|exact dis|fail) only [go_sem, simprocAttr, ↓EU_rg, g20, hA, g0, g2, g3, g9, g10, g12, g14, g15, g16, g17, g18', g19]); all_goals rfl), k6.up, x6⟩
   ·have f2 : decide (1 ≤ x.at') = false := decide_eq_false e2
    simp (maxSteps := 9000000) (disch := first|exact dis|fail) only [go_sem, simprocAttr, ↓EU_rg, g20, hA, g0, g12, g14, g18, dn0, dn1, dn2, dn3, hA, f1, f2]
    repeat refine WPo_ob ?_
    refine hSp.mono ?_
    rintro ⟨w, h7⟩ ⟨e, e7⟩
    simp only at e e7
    rw [if_neg (by decide)] at e7
    subst e e7
    simp (maxSteps := 9000000) (disch := first|exact dis|fail) only [go_sem, simprocAttr, ↓EU_rg, g20, hA, g0, g2, g3, g9, g10, g12, g14, g15, g16, g17, g18, g19, dn0, dn1, bne_self_eq_false]
    exact ⟨_, _, s, rfl, (by (constructor <;> simp (maxSteps := 9000000) (disch := first|exact dis|fail) only [go_sem, simprocAttr, ↓EU_rg, g20, hA, g0, g2, g3, g9, g10, g12, g14, g15, g16, g17, g18', g19]); all_goals rfl), k6.up, x6⟩
  ·have f1 : decide ((s.at' : Int) = 2) = false := decide_eq_false (by omega)
   simp (maxSteps := 9000000) (disch := first|exact dis|fail) only [go_sem, simprocAttr, ↓EU_rg, g20, hA, g0, g12, g14, g18, dn0, dn1, dn2, dn3, hA, f1]
   repeat refine WPo_ob ?_
   refine hSp.mono ?_
   rintro ⟨w, h7⟩ ⟨e, e7⟩
   simp only at e e7
   rw [if_neg (by decide)] at e7
   subst e e7
   simp (maxSteps := 9000000) (disch := first|exact dis|fail) only [go_sem, simprocAttr, ↓EU_rg, g20, hA, g0, g2, g3, g9, g10, g12, g14, g15, g16, g17, g18, g19, dn0, dn1, bne_self_eq_false]
   exact ⟨_, _, s, rfl, (by (constructor <;> simp (maxSteps := 9000000) (disch := first|exact dis|fail) only [go_sem, simprocAttr, ↓EU_rg, g20, hA, g0, g2, g3, g9, g10, g12, g14, g15, g16, g17, g18', g19]); all_goals rfl), k6.up, x6⟩
end
end Go.Proofs.YtddgcakiceodgaaGreat.EV
