/- Quotients and rests. No condition. Contracts: weight.Step, owed.day, owed.NewLine, owed.SeedLine, (*owed.Line).Form. No condition. Contract: own, of the statements. No condition. Contracts: owed.NewLine, owed.SeedLine, (*owed.Line).Form. No condition. Contract: owed.SeedLine. No condition. A method, called through an interface. No condition. Contracts: the three policies: of, New, Seed, Form; policy.of, New, Seed, Tag. No condition. -/
import Derived.Test.YtddgcakiceodgaaGreatM10
namespace Go.Proofs.YtddgcakiceodgaaGreat.EV
open Go Go.Proofs
theorem bin_quo0 (P : Program) (t : TypeId) (x y : Operand) (k : IntKind) (a b : Int) (hb : b ≠ 0) : evBin P .quo t x y (.int k a) (.int k b) = some (.int k (k.wrap (a.tdiv b))) := by
 have h1 : binOp .quo t (.int k a) (.int k b) = pure (.int k (k.wrap (a.tdiv b))) := by
  unfold binOp
  simp only [ne_eq, not_true_eq_false, if_false]
  unfold Op.intDiv
  rw [if_neg hb]
 have hf : fastBin .quo (.int k a) (.int k b) = none := by cases k <;> rfl
 unfold evBin
 rw [hf]
 show orE none (cnd true (match absPure P (eqGuard .quo t x y (.int k a) (.int k b) >>= fun _ => binOp .quo t (.int k a) (.int k b)) with | some v => cnd (flat1 v) (some v) none | none => none) _) = _
 rw [h1]
 rfl
theorem bin_quo (P : Program) (t : TypeId) (x y : Operand) (k : IntKind) (a b : Int) (hb : b ≠ 0) : evBin P .quo t x y (.int k a) (.int k b) = some (.int k (wrapF k (a.tdiv b))) := by
 rw [bin_quo0 P t x y k a b hb, wrapF_eq]
set_option linter.unusedVariables false
set_option linter.unusedSimpArgs false
set_option maxRecDepth 100000

theorem wgood_facts {w : Int} (h : wgood w = true) : 1 ≤ w ∧ w ≤ 20 := by
 unfold wgood at h
 simpa using h
noncomputable def wstep (w : Int) : Int := if wgood w then (232792560 : Int).tdiv w else 0
theorem wstep_le (w : Int) : 0 ≤ wstep w ∧ wstep w ≤ 232792560 := by
 unfold wstep
 cases h : wgood w with
 | false => rw [if_neg (by decide)]; omega
 | true =>
  have := wgood_facts h
  rw [if_pos rfl]
  exact ⟨Int.tdiv_nonneg (by decide) (by omega), Int.tdiv_le_self _ (by decide)⟩
theorem wstep_ev (a : Int) (h : Heap) : EF Tryz.prog O0 98 [.int .i64 a] h = some (.int .i64 (wstep a), h) := by
 have : WPo (EF Tryz.prog O0 98 [.int .i64 a] h) fun q => q = (.int .i64 (wstep a), h) := by
  unfold wstep
  rw [EF_body (O := O0) (by kernel_rfl) Tryz.func98 rfl (rs := [.tmp 2]) rfl (bad := []) (by kernel_rfl) _ _ (m := 8) rfl]
  cases hg : wgood a with
  | false =>
   rw [if_neg (by decide)]
   simp (disch := first|exact dis|fail) only [go_sem, simprocAttr, ↓EU_rg, wGood_ev, hg]
  | true =>
   have hf := wgood_facts hg
   have hq := fun x y => bin_quo Tryz.prog 3 x y .i64 232792560 a (by omega)
   have hr : 0 ≤ (232792560 : Int).tdiv a ∧ (232792560 : Int).tdiv a ≤ 232792560 := by
    refine ⟨Int.tdiv_nonneg (by decide) (by omega), ?_⟩
    exact Int.tdiv_le_self _ (by decide)
   have hw : wrapF .i64 ((232792560 : Int).tdiv a) = (232792560 : Int).tdiv a := wrap64 (by omega)
   rw [if_pos rfl]
   simp (disch := first|exact dis|fail) only [go_sem, simprocAttr, ↓EU_rg, wGood_ev, hg, hq, hw]
 obtain ⟨q, e, rfl⟩ := this
 exact e

structure Pnt where
 id : Int
 w : Int
 v : Int
 day : Int
deriving DecidableEq
noncomputable def pntE (x : Pnt) : List Value := [.int .i64 x.id, .int .i64 x.w, .int .i64 x.v, .int .i64 x.day]
@[go_sem] theorem pntE_len (x : Pnt) : (pntE x).length = 4 := (rfl)
@[go_sem] theorem pntE_scal (x : Pnt) : (pntE x).all scal = true := (rfl)
@[go_sem] theorem pntE_0 (x : Pnt) : (pntE x)[0]? = some (.int .i64 x.id) := (rfl)
@[go_sem] theorem pntE_1 (x : Pnt) : (pntE x)[1]? = some (.int .i64 x.w) := (rfl)
@[go_sem] theorem pntE_2 (x : Pnt) : (pntE x)[2]? = some (.int .i64 x.v) := (rfl)
@[go_sem] theorem pntE_3 (x : Pnt) : (pntE x)[3]? = some (.int .i64 x.day) := (rfl)
noncomputable def dayP (p : Pnt) : Pnt := ⟨p.id, p.w, p.v, p.v + 4 * wstep p.w⟩
theorem day_ev (x : Pnt) (h : Heap) (hv : -4611686018427387904 ≤ x.v ∧ x.v ≤ 4611686018427387904) : Pu (EF Tryz.prog O0 88 [.agg ⟨pntE x⟩] h) h (.agg ⟨pntE (dayP x)⟩) := by
 have hw := wstep_le x.w
 have w1 : wrapF .i64 (4 * wstep x.w) = 4 * wstep x.w := wrap64 (by omega)
 have w2 : wrapF .i64 (x.v + 4 * wstep x.w) = x.v + 4 * wstep x.w := wrap64 (by omega)
 unfold Pu pntE
 rw [EF_body (O := O0) (by kernel_rfl) Tryz.func88 rfl (rs := [.cell 2 155]) rfl (bad := [1]) (by kernel_rfl) _ _ (m := 12) rfl]
 simp (disch := first|exact dis|fail) only [go_sem, simprocAttr]
 (first | rw [EU_region] | rw [EU_draw _ _ rfl]); simp (disch := first|exact dis|fail) only [go_sem, simprocAttr]
 rw [EU_bad _ _ rfl, EC_tab (tab := [(false, none), (false, (some (0, 1))), (false, none), (false, none), (true, none), (false, none), (false, none), (false, none), (true, none)]) (by kernel_rfl)]
 simp (disch := first|exact dis|fail) only [go_sem, simprocAttr, ↓EU_rg, wstep_ev, w1, w2]
 exact ⟨rfl, by repeat (first | exact Ext.refl _ | assumption | refine Ext.push ?_ _ | refine Ext.set ?_ _ _ (by first | omega | (simp only [next_push, next_set]; omega)))⟩
theorem OW.veq {α : Type} {e : α → List Value} {es : Nat} {h : Heap} {v : Value} {l : List α} (s : OW e es h v l) : veq v v = true := by
 cases s with
 | nil => exact veq_slN _ _
 | mk b o c l cs hb hc hcap hl hx => exact veq_slS _ _ _ _
theorem SL.veq {α : Type} {e : α → List Value} {es : Nat} {h : Heap} {v : Value} {l : List α} (s : SL e es h v l) : veq v v = true := by
 cases s with
 | nil => exact veq_slN _ _
 | mk b o c l cs hb hc hl hx hcap hq => exact veq_slS _ _ _ _
theorem own_ev (cur : Int) (l : List Item) (s : Value) (h : Heap) (hs : SL itemE 3 h s l) (hl : l.length < 900000) :
  WPo (EF Tryz.prog O0 23 [formV cur s] h) fun q => ∃ v, q.1 = formV cur v ∧ OW itemE 3 q.2 v l ∧ Fresh h.next v ∧ Ext h q.2 := by
 rw [EF_body (O := O0) (by kernel_rfl) Tryz.func23 rfl (rs := [.cell 2 52]) rfl (bad := [5]) (by kernel_rfl) _ _ (m := 40) rfl]
 obtain ⟨a, c, hv⟩ := hs.val
 subst hv
 unfold formV
 simp (disch := first|exact dis|fail) only [go_sem, simprocAttr, ↓EU_rg]
 repeat refine WPo_ob ?_
 refine (LP_rule (fun m st => ∃ (i : Nat) (tm : Fr) (h2 : Heap) (v : Value), st = ⟨tm, h2, []⟩ ∧ m = l.length - i ∧ i ≤ l.length ∧ Fr.get tm 1 = ptr h.next 0 ∧ Fr.get tm 2 = ptr (h.next + 1) 0 ∧ Fr.get tm 3 = ptr (h.next + 1 + 1) 0 ∧ Fr.get tm 4 = .int .i64 i ∧ Ext h h2 ∧ h2.get h.next = .cells [.int .i64 cur, .slice a l.length c] 0 ∧ (∃ w, h2.get (h.next + 1) = .cells [.int .i64 0, w] 0) ∧ h2.get (h.next + 1 + 1) = .cells [.int .i64 cur, v] 0 ∧ OW itemE 3 h2 v (l.take i) ∧ Fresh (h.next + 1 + 1 + 1) v ∧ h.next + 1 + 1 < h2.next)
  (fun q => ∃ tm h2 v, q.2 = ⟨tm, h2, []⟩ ∧ q.1 = .exit 0 ∧ Fr.get tm 2 = ptr (h.next + 1) 0 ∧ Fr.get tm 3 = ptr (h.next + 1 + 1) 0 ∧ Ext h h2 ∧ (∃ w, h2.get (h.next + 1) = .cells [.int .i64 0, w] 0) ∧ h2.get (h.next + 1 + 1) = .cells [.int .i64 cur, v] 0 ∧ OW itemE 3 h2 v l ∧ Fresh (h.next + 1 + 1 + 1) v ∧ h.next + 1 + 1 < h2.next) ?_ l.length _ _ ?_ ?_).mono ?_
 ·rintro m _ ⟨i, tm, h2, v, rfl, rfl, hi, g1, g2, g3, g4, x2, hF, ⟨w, hw⟩, hB, hov, hfv, hn2⟩
  simp (disch := first|exact dis|fail) only [go_sem, simprocAttr, ↓EU_rg, g1, g4, hF]
  ((repeat refine WPo_ob ?_); (first | refine WPo_cond (fun b1 => ?_) (fun b1 => ?_) | refine WPo_gard (fun b1 => ?_) (fun b1 => ?_) | refine WPo_gardT (fun b1 => ?_) (fun b1 => ?_)) <;> (try simp only [Bool.not_eq_true', Bool.not_eq_false'] at b1))
  ·have b1' := b1
   simp only [decide_eq_true_eq] at b1'
   have hi' : i < l.length := by omega
   obtain ⟨x, hx⟩ : ∃ x, l[i]? = some x := ⟨_, List.getElem?_eq_getElem hi'⟩
   obtain ⟨b, o, c', e, hb', hrd, hr⟩ := (hs.ext x2).at hx rfl
   cases e
   have hr0 := hr 0 _ rfl
   have hr1 := hr 1 _ rfl
   have hr2 := hr 2 _ rfl
   rw [add_z] at hr0
   simp (disch := first|exact dis|fail) only [go_sem, simprocAttr, g1, g2, g3, g4, hF]
   rw [EU_bad _ _ rfl, EC_tab (tab := [(false, none), (false, (some (0, 1))), (false, none), (false, none), (false, none), (false, none), (false, none), (false, none), (false, none), (false, none), (false, none), (false, none), (false, none), (false, none), (false, none), (false, none), (false, none), (false, none), (false, none), (false, none), (false, none), (true, none), (true, none), (false, none), (true, none)]) (by kernel_rfl)]
   obtain ⟨av, kv, hvv⟩ := hov.val
   subst hvv
   simp (disch := first|exact dis|fail) only [go_sem, simprocAttr, ↓EU_rg, g1, g2, g3, g4, hF, hB, hr0, hr1, hr2]
   repeat refine WPo_ob ?_
   have hlit := OW.lit itemE_len h2 [x]
   rw [List.flatMap_cons, List.flatMap_nil, List.append_nil] at hlit
   unfold itemE at hlit
   have hm1 : ∀ j, blkOf (.slice av (l.take i).length kv) j → h.next ≤ j := fun j hj => by have := hfv j hj; omega
   have hsn : l.take (i + 1) = l.take i ++ [x] := by rw [List.take_add_one, hx]; rfl
   refine append_gr (l := l.take i) (l' := [x]) fc_ap_50_50 itemE_len (by decide) itemE_scal (hov.ext ((Ext.refl h2).push _)) hlit.sl (by rw [List.length_take]; simp only [List.length_cons, List.length_nil]; omega) (by rw [List.length_take]; simp only [List.length_cons, List.length_nil]; omega) fun v' h3 hov' gr => ?_
   rw [← hsn] at hov'
   have hnv : ∀ k, k ≤ h.next + 1 + 1 → ¬ blkOf (.slice av (l.take i).length kv) k := fun k hk q => by have := hfv _ q; omega
   have hk3 : ∀ k, k ≤ h.next + 1 + 1 → h3.get k = h2.get k := fun k hk => by rw [gr.old _ (by rw [next_push]; omega) (hnv k hk), get_push_old _ (by omega)]
   have hB' := (hk3 (h.next + 1 + 1) (by omega)).trans hB
   have hF' := (hk3 h.next (by omega)).trans hF
   have hw' := (hk3 (h.next + 1) (by omega)).trans hw
   have hn' := gr.le
   rw [next_push] at hn'
   have hfv' : Fresh (h.next + 1 + 1 + 1) v' := gr.fresh hfv (by rw [next_push]; omega)
   obtain ⟨av', kv', hvv'⟩ := hov'.val
   subst hvv'
   simp (disch := first|exact dis|fail) only [go_sem, simprocAttr, ↓EU_rg, g1, g2, g3, g4, hF, hB, hB', hr0, hr1, hr2, hov.veq]
   have hm2 : Mod (fun j => h.next ≤ j) h2 (h3.set (h.next + 1 + 1) (.cells [.int .i64 cur, .slice av' (l.take (i + 1)).length kv'] 0)) := ((((Mod.refl _ h2).push _).trans (gr.mod.mono fun j _ hj => hm1 j hj))).set _ _ fun _ => by omega
   refine ⟨_, by omega, i + 1, _, _, _, rfl, rfl, by omega, by simp (disch := first|exact dis|fail) only [go_sem, simprocAttr, ↓EU_rg, g1], by simp (disch := first|exact dis|fail) only [go_sem, simprocAttr, ↓EU_rg, g2], by simp (disch := first|exact dis|fail) only [go_sem, simprocAttr, ↓EU_rg, g3], by simp (disch := first|exact dis|fail) only [go_sem, simprocAttr, ↓EU_rg], ⟨Nat.le_trans x2.le hm2.le, fun j hj => (hm2.old j (Nat.lt_of_lt_of_le hj x2.le) (by omega)).trans (x2.old j hj)⟩, by simp (disch := first|exact dis|fail) only [go_sem, simprocAttr, ↓EU_rg, hF'], ⟨w, by simp (disch := first|exact dis|fail) only [go_sem, simprocAttr, ↓EU_rg, hw']⟩, by simp (disch := first|exact dis|fail) only [go_sem, simprocAttr, ↓EU_rg], hov'.mod (Mod.set (S := fun j => j = h.next + 1 + 1) (Mod.refl _ _) _ _ (fun _ => rfl)) (fun j hj q => by have := hfv' j hj; omega), hfv', by rw [next_set]; omega⟩
  ·simp only [decide_eq_false_iff_not] at b1
   have : i = l.length := by omega
   subst this
   rw [List.take_length] at hov
   simp (disch := first|exact dis|fail) only [go_sem, simprocAttr, ↓EU_rg]
   exact ⟨_, _, v, rfl, trivial, by simp (disch := first|exact dis|fail) only [go_sem, simprocAttr, ↓EU_rg, g2], by simp (disch := first|exact dis|fail) only [go_sem, simprocAttr, ↓EU_rg, g3], x2, ⟨w, hw⟩, hB, hov, hfv, hn2⟩
 ·refine ⟨0, _, _, _, rfl, rfl, by omega, by simp (disch := first|exact dis|fail) only [go_sem, simprocAttr, ↓EU_rg], by simp (disch := first|exact dis|fail) only [go_sem, simprocAttr, ↓EU_rg], by simp (disch := first|exact dis|fail) only [go_sem, simprocAttr, ↓EU_rg], by simp (disch := first|exact dis|fail) only [go_sem, simprocAttr, ↓EU_rg]; all_goals rfl, ((((Ext.refl h).push _).push _).push _).set _ _ (by omega), by simp (disch := first|exact dis|fail) only [go_sem, simprocAttr, ↓EU_rg], ⟨.slice none 0 1, by simp (disch := first|exact dis|fail) only [go_sem, simprocAttr, ↓EU_rg]⟩, by simp (disch := first|exact dis|fail) only [go_sem, simprocAttr, ↓EU_rg], OW.nil, Fresh.nil _ _ _, by simp only [next_push, next_set]; omega⟩
 ·omega
 ·rintro ⟨q, _⟩ ⟨tm, h2, v, rfl, rfl, g2, g3, x2, ⟨w, hw⟩, hB, hov, hfv, hn2⟩
  obtain ⟨av, kv, rfl⟩ := hov.val
  simp (disch := first|exact dis|fail) only [go_sem, simprocAttr, ↓EU_rg, g2, g3, hw, hB]
  exact ⟨_, rfl, hov.mod (Mod.set (S := fun j => j = h.next + 1) (Mod.refl _ _) _ _ (fun _ => rfl)) (fun j hj q => by have := hfv j hj; omega), hfv.mono (by omega), x2.set _ _ (by omega)⟩
noncomputable def bgood (base : Int) : Bool := decide (base ≤ 1152921504606846976) && decide (-1152921504606846976 ≤ base)
theorem bgood_facts {b : Int} (h : bgood b = true) : -1152921504606846976 ≤ b ∧ b ≤ 1152921504606846976 := by
 unfold bgood at h
 simp only [Bool.and_eq_true, decide_eq_true_eq] at h
 omega
noncomputable def lineV (base cur : Int) (s : Value) : Value := .agg ⟨[.int .i64 base, .int .i64 cur, s]⟩
noncomputable def noS : Value := .slice none 0 1
theorem newLine_ev (base : Int) (h : Heap) : Pu (EF Tryz.prog O0 71 [.int .i64 base] h) h (if bgood base then .tuple ⟨[lineV base (-1) noS, .int .i64 0]⟩ else .tuple ⟨[lineV 0 0 noS, .int .i64 1]⟩) := by
 unfold Pu lineV noS
 rw [EF_body (O := O0) (by kernel_rfl) Tryz.func71 rfl (rs := [.cell 2 132, .tmp 3]) rfl (bad := []) (by kernel_rfl) _ _ (m := 13) rfl]
 simp (disch := first|exact dis|fail) only [go_sem, simprocAttr, ↓EU_rg]
 repeat' (((repeat refine WPo_ob ?_); (first | refine WPo_cond (fun hb => ?_) (fun hb => ?_) | refine WPo_gard (fun hb => ?_) (fun hb => ?_) | refine WPo_gardT (fun hb => ?_) (fun hb => ?_)) <;> (try simp only [Bool.not_eq_true', Bool.not_eq_false'] at hb)) <;> (simp (disch := first|exact dis|fail) only [go_sem, simprocAttr, ↓EU_rg, hb]))
 all_goals (refine ⟨?_, by repeat (first | exact Ext.refl _ | assumption | refine Ext.push ?_ _ | refine Ext.set ?_ _ _ (by first | omega | (simp only [next_push, next_set]; omega)))⟩)
 all_goals (unfold bgood; simp only [Bool.and_eq_true, decide_eq_true_eq, decide_eq_false_iff_not] at *)
 all_goals first | (rw [if_pos (by omega)]; done) | (rw [if_neg (by omega)]; done)
noncomputable def itP (base : Int) (p : Pnt) : Item := ⟨p.id, p.w, base - p.v⟩
noncomputable def ptI (base : Int) (x : Item) : Pnt := dayP ⟨x.id, x.w, base - x.lag, 0⟩
theorem itP_ptI (base : Int) (x : Item) : itP base (ptI base x) = x := by
 unfold itP ptI dayP
 cases x
 simp
 omega
theorem map_itP_ptI (base : Int) (l : List Item) : (l.map (ptI base)).map (itP base) = l := by
 rw [List.map_map]
 conv => rhs; rw [← List.map_id l]
 exact List.map_congr_left fun x _ => itP_ptI base x
set_option maxHeartbeats 1000000 in
theorem lform_ev (base cur : Int) (l : List Pnt) (s : Value) (b : Nat) (h : Heap) (hb : b < h.next) (hc : h.get b = .cells [.int .i64 base, .int .i64 cur, s] 0) (hs : SL pntE 4 h s l) (hl : l.length < 900000) (hw : ∀ p ∈ l, -9223372036854775808 ≤ base - p.v ∧ base - p.v < 9223372036854775808) :
  WPo (EF Tryz.prog O0 129 [ptr b 0] h) fun q => ∃ v, q.1 = formV cur v ∧ OW itemE 3 q.2 v (l.map (itP base)) ∧ Fresh h.next v ∧ Ext h q.2 := by
 rw [EF_body (O := O0) (by kernel_rfl) Tryz.func129 rfl (rs := [.cell 2 24]) rfl (bad := [5]) (by kernel_rfl) _ _ (m := 39) rfl]
 obtain ⟨a, c, hv⟩ := hs.val
 subst hv
 unfold formV
 simp (disch := first|exact dis|fail) only [go_sem, simprocAttr, ↓EU_rg, hc]
 repeat refine WPo_ob ?_
 refine (LP_rule (fun m st => ∃ (i : Nat) (tm : Fr) (h2 : Heap) (v : Value), st = ⟨tm, h2, []⟩ ∧ m = l.length - i ∧ i ≤ l.length ∧ Fr.get tm 0 = ptr b 0 ∧ Fr.get tm 2 = ptr h.next 0 ∧ Fr.get tm 3 = ptr (h.next + 1) 0 ∧ Fr.get tm 14 = .slice a l.length c ∧ Fr.get tm 15 = .int .i64 l.length ∧ Fr.get tm 16 = .int .i64 i ∧ Ext h h2 ∧ (∃ w, h2.get h.next = .cells [.int .i64 0, w] 0) ∧ h2.get (h.next + 1) = .cells [.int .i64 cur, v] 0 ∧ OW itemE 3 h2 v ((l.take i).map (itP base)) ∧ Fresh (h.next + 1 + 1) v ∧ h.next + 1 < h2.next)
  (fun q => ∃ tm h2 v, q.2 = ⟨tm, h2, []⟩ ∧ q.1 = .exit 0 ∧ Fr.get tm 2 = ptr h.next 0 ∧ Fr.get tm 3 = ptr (h.next + 1) 0 ∧ Ext h h2 ∧ (∃ w, h2.get h.next = .cells [.int .i64 0, w] 0) ∧ h2.get (h.next + 1) = .cells [.int .i64 cur, v] 0 ∧ OW itemE 3 h2 v (l.map (itP base)) ∧ Fresh (h.next + 1 + 1) v ∧ h.next + 1 < h2.next) ?_ l.length _ _ ?_ ?_).mono ?_
 ·rintro m _ ⟨i, tm, h2, v, rfl, rfl, hi, g0, g2, g3, g14, g15, g16, x2, ⟨w, hw0⟩, hB, hov, hfv, hn2⟩
  have hc2 := (x2.old b hb).trans hc
  simp (disch := first|exact dis|fail) only [go_sem, simprocAttr, ↓EU_rg, g14, g15, g16]
  ((repeat refine WPo_ob ?_); (first | refine WPo_cond (fun b1 => ?_) (fun b1 => ?_) | refine WPo_gard (fun b1 => ?_) (fun b1 => ?_) | refine WPo_gardT (fun b1 => ?_) (fun b1 => ?_)) <;> (try simp only [Bool.not_eq_true', Bool.not_eq_false'] at b1))
  ·have b1' := b1
   simp only [decide_eq_true_eq] at b1'
   have hi' : i < l.length := by omega
   obtain ⟨x, hx⟩ : ∃ x, l[i]? = some x := ⟨_, List.getElem?_eq_getElem hi'⟩
   have hwx := hw x (List.mem_of_getElem? hx)
   have hww : wrapF .i64 (base - x.v) = base - x.v := wrap64 hwx
   obtain ⟨b', o, c', e, hb', hrd, hr⟩ := (hs.ext x2).at hx rfl
   cases e
   unfold pntE at hrd
   simp (disch := first|exact dis|fail) only [go_sem, simprocAttr, g14, g15, g16, hrd]
   (first | rw [EU_region] | rw [EU_draw _ _ rfl]); simp (disch := first|exact dis|fail) only [go_sem, simprocAttr, g14, g15, g16, hrd]
   rw [EU_bad _ _ rfl, EC_tab (tab := [(false, none), (false, (some (0, 1))), (false, none), (false, none), (false, none), (false, none), (false, none), (false, none), (false, none), (false, none), (false, none), (false, none), (false, none), (false, none), (true, none), (true, none), (false, none), (true, none)]) (by kernel_rfl)]
   obtain ⟨av, kv, hvv⟩ := hov.val
   subst hvv
   simp (disch := first|exact dis|fail) only [go_sem, simprocAttr, ↓EU_rg, g0, g2, g3, g14, g15, g16, hB, hc2, hww, hrd]
   repeat refine WPo_ob ?_
   have hlit := OW.lit itemE_len (h2.push (.cells (pntE x) 0)) [itP base x]
   rw [List.flatMap_cons, List.flatMap_nil, List.append_nil] at hlit
   unfold itemE itP at hlit
   have hm1 : ∀ j, blkOf (.slice av ((l.take i).map (itP base)).length kv) j → h.next ≤ j := fun j hj => by have := hfv j hj; omega
   have hsn : (l.take (i + 1)).map (itP base) = (l.take i).map (itP base) ++ [itP base x] := by rw [List.take_add_one, hx, List.map_append]; rfl
   refine append_gr (l := (l.take i).map (itP base)) (l' := [itP base x]) fc_ap_22_22 itemE_len (by decide) itemE_scal (hov.ext (((Ext.refl h2).push _).push _)) hlit.sl (by rw [List.length_map, List.length_take]; simp only [List.length_cons, List.length_nil]; omega) (by rw [List.length_map, List.length_take]; simp only [List.length_cons, List.length_nil]; omega) fun v' h3 hov' gr => ?_
   rw [← hsn] at hov'
   have hnv : ∀ k, k ≤ h.next + 1 → ¬ blkOf (.slice av ((l.take i).map (itP base)).length kv) k := fun k hk q => by have := hfv _ q; omega
   have hk3 : ∀ k, k ≤ h.next + 1 → h3.get k = h2.get k := fun k hk => by rw [gr.old _ (by simp only [next_push]; omega) (hnv k hk), get_push_old _ (by simp only [next_push]; omega), get_push_old _ (by omega)]
   have hB' := (hk3 (h.next + 1) (by omega)).trans hB
   have hw' := (hk3 h.next (by omega)).trans hw0
   have hn' := gr.le
   simp only [next_push] at hn'
   have hfv' : Fresh (h.next + 1 + 1) v' := gr.fresh hfv (by simp only [next_push]; omega)
   obtain ⟨av', kv', hvv'⟩ := hov'.val
   subst hvv'
   simp (disch := first|exact dis|fail) only [go_sem, simprocAttr, ↓EU_rg, g0, g2, g3, g14, g15, g16, hB, hB', hov.veq]
   have hm2 : Mod (fun j => h.next ≤ j) h2 (h3.set (h.next + 1) (.cells [.int .i64 cur, .slice av' ((l.take (i + 1)).map (itP base)).length kv'] 0)) := (((((Mod.refl _ h2).push _).push _).trans (gr.mod.mono fun j _ hj => hm1 j hj))).set _ _ fun _ => by omega
   refine ⟨_, by omega, i + 1, _, _, _, rfl, rfl, by omega, by simp (disch := first|exact dis|fail) only [go_sem, simprocAttr, ↓EU_rg, g0], by simp (disch := first|exact dis|fail) only [go_sem, simprocAttr, ↓EU_rg, g2], by simp (disch := first|exact dis|fail) only [go_sem, simprocAttr, ↓EU_rg, g3], by simp (disch := first|exact dis|fail) only [go_sem, simprocAttr, ↓EU_rg, g14], by simp (disch := first|exact dis|fail) only [go_sem, simprocAttr, ↓EU_rg, g15], by simp (disch := first|exact dis|fail) only [go_sem, simprocAttr, ↓EU_rg], ⟨Nat.le_trans x2.le hm2.le, fun j hj => (hm2.old j (Nat.lt_of_lt_of_le hj x2.le) (by omega)).trans (x2.old j hj)⟩, ⟨w, by simp (disch := first|exact dis|fail) only [go_sem, simprocAttr, ↓EU_rg, hw']⟩, by simp (disch := first|exact dis|fail) only [go_sem, simprocAttr, ↓EU_rg], hov'.mod (Mod.set (S := fun j => j = h.next + 1) (Mod.refl _ _) _ _ (fun _ => rfl)) (fun j hj q => by have := hfv' j hj; omega), hfv', by rw [next_set]; omega⟩
  ·simp only [decide_eq_false_iff_not] at b1
   have : i = l.length := by omega
   subst this
   rw [List.take_length] at hov
   simp (disch := first|exact dis|fail) only [go_sem, simprocAttr, ↓EU_rg]
   exact ⟨_, _, v, rfl, trivial, by simp (disch := first|exact dis|fail) only [go_sem, simprocAttr, ↓EU_rg, g2], by simp (disch := first|exact dis|fail) only [go_sem, simprocAttr, ↓EU_rg, g3], x2, ⟨w, hw0⟩, hB, hov, hfv, hn2⟩
 ·refine ⟨0, _, _, _, rfl, rfl, by omega, by simp (disch := first|exact dis|fail) only [go_sem, simprocAttr, ↓EU_rg], by simp (disch := first|exact dis|fail) only [go_sem, simprocAttr, ↓EU_rg], by simp (disch := first|exact dis|fail) only [go_sem, simprocAttr, ↓EU_rg], by simp (disch := first|exact dis|fail) only [go_sem, simprocAttr, ↓EU_rg], by simp (disch := first|exact dis|fail) only [go_sem, simprocAttr, ↓EU_rg], by simp (disch := first|exact dis|fail) only [go_sem, simprocAttr, ↓EU_rg]; all_goals rfl, (((Ext.refl h).push _).push _).set _ _ (by omega), ⟨.slice none 0 1, by simp (disch := first|exact dis|fail) only [go_sem, simprocAttr, ↓EU_rg]⟩, by simp (disch := first|exact dis|fail) only [go_sem, simprocAttr, ↓EU_rg], OW.nil, Fresh.nil _ _ _, by simp only [next_push, next_set]; omega⟩
 ·omega
 ·rintro ⟨q, _⟩ ⟨tm, h2, v, rfl, rfl, g2, g3, x2, ⟨w, hw0⟩, hB, hov, hfv, hn2⟩
  obtain ⟨av, kv, rfl⟩ := hov.val
  simp (disch := first|exact dis|fail) only [go_sem, simprocAttr, ↓EU_rg, g2, g3, hw0, hB]
  exact ⟨_, rfl, hov.mod (Mod.set (S := fun j => j = h.next) (Mod.refl _ _) _ _ (fun _ => rfl)) (fun j hj q => by have := hfv j hj; omega), hfv.mono (by omega), x2.set _ _ (by omega)⟩
theorem lnMay_facts {x : Item} (h : imay x = true) : 0 ≤ x.id ∧ x.id ≤ 1073741824 ∧ 1 ≤ x.w ∧ x.w ≤ 20 ∧ -1125899906842624 ≤ x.lag ∧ x.lag ≤ 1125899906842624 := by
 unfold imay wgood at h
 simpa [and_assoc] using h
theorem lnOrd_may : ∀ {l : List Item} {p : Option Item}, ordOk p l = true → ∀ x ∈ l, imay x = true
 | [], _, _, x, hx => by cases hx
 | y :: l, p, h, x, hx => by
  have : imay y = true ∧ ordOk (some y) l = true := by
   cases p with
   | none => simpa [ordOk] using h
   | some q => simp [ordOk] at h; exact ⟨h.1, h.2.2⟩
  rcases List.mem_cons.1 hx with rfl | hx
  ·exact this.1
  ·exact lnOrd_may this.2 x hx
theorem lnGood_may {cur : Int} {l : List Item} (h : goodF cur l = true) : ∀ x ∈ l, imay x = true := by
 unfold goodF at h
 simp only [Bool.and_eq_true] at h
 exact lnOrd_may h.2.2.1
theorem lnGood_len {cur : Int} {l : List Item} (h : goodF cur l = true) : l.length ≤ 64 := by
 unfold goodF at h
 simp only [Bool.and_eq_true, decide_eq_true_eq] at h
 exact h.1
set_option maxHeartbeats 1000000 in
theorem seedLine_ev (base cur : Int) (l : List Item) (s : Value) (h : Heap) (hs : SL itemE 3 h s l) (hl : l.length < 900000) :
  WPo (EF Tryz.prog O0 78 [formV cur s, .int .i64 base] h) fun q => Ext h q.2 ∧ if bgood base && goodF cur l then ∃ v, q.1 = .tuple ⟨[lineV base cur v, .int .i64 0]⟩ ∧ OW pntE 4 q.2 v (l.map (ptI base)) ∧ Fresh h.next v else q.1 = .tuple ⟨[lineV 0 0 noS, .int .i64 1]⟩ := by
 rw [EF_body (O := O0) (by kernel_rfl) Tryz.func78 rfl (rs := [.cell 4 132, .tmp 5]) rfl (bad := [8]) (by kernel_rfl) _ _ (m := 50) rfl]
 obtain ⟨a, c, hv⟩ := hs.val
 subst hv
 have hG := fun h' (x : Ext h h') => good_ev cur l (.slice a l.length c) h' (hs.ext x) hl
 unfold formV lineV noS at *
 simp (disch := first|exact dis|fail) only [go_sem, simprocAttr, ↓EU_rg]
 repeat refine WPo_ob ?_
 refine (newLine_ev base _).bind fun h1 x1 => ?_
 unfold lineV noS
 have hn1 := x1.le
 simp only [next_push] at hn1
 have hk1 : ∀ k, k < h.next → h1.get k = h.get k := fun k hk => by rw [x1.old _ (by simp only [next_push]; omega), get_push_old _ (by simp only [next_push]; omega), get_push_old _ (by omega)]
 have hf1 : h1.get h.next = .cells [.int .i64 cur, .slice a l.length c] 0 := by simp (disch := first|exact dis|fail) only [go_sem, simprocAttr, ↓EU_rg, x1.old]
 have hr1 : h1.get (h.next + 1) = .cells [.int .i64 0, .int .i64 0, .slice none 0 1] 0 := by simp (disch := first|exact dis|fail) only [go_sem, simprocAttr, ↓EU_rg, x1.old]
 have xh1 : Ext h h1 := ((((Ext.refl h).push _).push _).trans x1)
 cases hbg : bgood base with
 | false =>
  have d10 : decide ((1 : Int) = 0) = false := rfl
  simp (disch := first|exact dis|fail) only [go_sem, simprocAttr, ↓EU_rg, Bool.false_and, if_false, Bool.false_eq_true, d10, hr1]
  exact ⟨(xh1.push _).set _ _ (by omega), trivial⟩
 | true =>
  have hbf := bgood_facts hbg
  simp (disch := first|exact dis|fail) only [go_sem, simprocAttr, if_true]
  simp (disch := first|exact dis|fail) only [go_sem, simprocAttr, ↓EU_rg, hf1]
  repeat refine WPo_ob ?_
  refine (hG _ ((xh1.push _))).bind fun h2 x2 => ?_
  have hn2 := x2.le
  simp only [next_push] at hn2
  have hf2 : h2.get h.next = .cells [.int .i64 cur, .slice a l.length c] 0 := by simp (disch := first|exact dis|fail) only [go_sem, simprocAttr, ↓EU_rg, x2.old, hf1]
  have hr2 : h2.get (h.next + 1) = .cells [.int .i64 0, .int .i64 0, .slice none 0 1] 0 := by simp (disch := first|exact dis|fail) only [go_sem, simprocAttr, ↓EU_rg, x2.old, hr1]
  have hl2 : h2.get h1.next = .cells [.int .i64 base, .int .i64 (-1), .slice none 0 1] 0 := by simp (disch := first|exact dis|fail) only [go_sem, simprocAttr, ↓EU_rg, x2.old]
  have xh2 : Ext h h2 := (xh1.push _).trans x2
  cases hgf : goodF cur l with
  | false =>
   simp (disch := first|exact dis|fail) only [go_sem, simprocAttr, ↓EU_rg, hr2, Bool.and_false, if_false, Bool.false_eq_true]
   exact ⟨xh2.set _ _ (by omega), trivial⟩
  | true =>
   have hmay := lnGood_may hgf
   have hne : h1.next ≠ h.next + 1 := by omega
   have hlen := lnGood_len hgf
   simp (disch := first|exact dis|fail) only [go_sem, simprocAttr, ↓EU_rg, hf2, hl2, hr2, Bool.and_self, if_true]
   repeat refine WPo_ob ?_
   refine (LP_rule (fun m st => ∃ (i : Nat) (tm : Fr) (h2 : Heap) (v : Value), st = ⟨tm, h2, []⟩ ∧ m = l.length - i ∧ i ≤ l.length ∧ Fr.get tm 1 = .int .i64 base ∧ Fr.get tm 4 = ptr (h.next + 1) 0 ∧ Fr.get tm 6 = ptr h1.next 0 ∧ Fr.get tm 27 = .slice a l.length c ∧ Fr.get tm 28 = .int .i64 l.length ∧ Fr.get tm 29 = .int .i64 i ∧ Ext h h2 ∧ h2.get (h.next + 1) = .cells [.int .i64 0, .int .i64 0, .slice none 0 1] 0 ∧ h2.get h1.next = .cells [.int .i64 base, .int .i64 cur, v] 0 ∧ OW pntE 4 h2 v ((l.take i).map (ptI base)) ∧ Fresh (h1.next + 1) v ∧ h1.next + 1 ≤ h2.next)
    (fun q => ∃ tm h2 v, q.2 = ⟨tm, h2, []⟩ ∧ q.1 = .exit 0 ∧ Fr.get tm 4 = ptr (h.next + 1) 0 ∧ Fr.get tm 6 = ptr h1.next 0 ∧ Ext h h2 ∧ h2.get (h.next + 1) = .cells [.int .i64 0, .int .i64 0, .slice none 0 1] 0 ∧ h2.get h1.next = .cells [.int .i64 base, .int .i64 cur, v] 0 ∧ OW pntE 4 h2 v (l.map (ptI base)) ∧ Fresh (h1.next + 1) v ∧ h1.next + 1 ≤ h2.next) ?_ l.length _ _ ?_ ?_).mono ?_
   ·clear hf2 hr2 hl2 x2 xh2 hn2 h2
    rintro m _ ⟨i, tm, h2, v, rfl, rfl, hi, g1, g4, g6, g27, g28, g29, x2, hR, hB, hov, hfv, hn2⟩
    simp (disch := first|exact dis|fail) only [go_sem, simprocAttr, ↓EU_rg, g27, g28, g29]
    ((repeat refine WPo_ob ?_); (first | refine WPo_cond (fun b1 => ?_) (fun b1 => ?_) | refine WPo_gard (fun b1 => ?_) (fun b1 => ?_) | refine WPo_gardT (fun b1 => ?_) (fun b1 => ?_)) <;> (try simp only [Bool.not_eq_true', Bool.not_eq_false'] at b1))
    ·have b1' := b1
     simp only [decide_eq_true_eq] at b1'
     have hi' : i < l.length := by omega
     obtain ⟨x, hx⟩ : ∃ x, l[i]? = some x := ⟨_, List.getElem?_eq_getElem hi'⟩
     have hm := lnMay_facts (hmay x (List.mem_of_getElem? hx))
     have hww : wrapF .i64 (base - x.lag) = base - x.lag := wrap64 (by omega)
     obtain ⟨b', o, c', e, hb', hrd, hr⟩ := (hs.ext x2).at hx rfl
     cases e
     unfold itemE at hrd
     simp (disch := first|exact dis|fail) only [go_sem, simprocAttr, g27, g28, g29, hrd]
     (first | rw [EU_region] | rw [EU_draw _ _ rfl]); simp (disch := first|exact dis|fail) only [go_sem, simprocAttr, g27, g28, g29, hrd]
     rw [EU_bad _ _ rfl, EC_tab (tab := [(false, none), (false, (some (0, 2))), (false, none), (false, none), (false, none), (false, none), (false, none), (false, none), (false, none), (false, none), (false, none), (true, none), (true, none), (true, none), (false, none), (true, none)]) (by kernel_rfl)]
     obtain ⟨av, kv, hvv⟩ := hov.val
     subst hvv
     simp (disch := first|exact dis|fail) only [go_sem, simprocAttr, ↓EU_rg, g1, g4, g6, g27, g28, g29, hB, hww, hrd]
     repeat refine WPo_ob ?_
     have hD := day_ev ⟨x.id, x.w, base - x.lag, 0⟩ (h2.push (.cells (itemE x) 0)) (by simp only; omega)
     unfold pntE itemE at hD
     simp only at hD
     refine hD.bind fun h3 x3 => ?_
     have hn3 := x3.le
     simp only [next_push] at hn3
     have x23 : Ext h2 h3 := ((Ext.refl h2).push _).trans x3
     have hI3 : h3.get h2.next = .cells [.int .i64 x.id, .int .i64 x.w, .int .i64 x.lag] 0 := by rw [x3.old _ (by rw [next_push]; omega)]; exact get_push_new _ _
     have hB3 := (x23.old h1.next (by omega)).trans hB
     have hR3 := (x23.old (h.next + 1) (by omega)).trans hR
     have hpe : (.agg ⟨[.int .i64 (dayP ⟨x.id, x.w, base - x.lag, 0⟩).id, .int .i64 (dayP ⟨x.id, x.w, base - x.lag, 0⟩).w, .int .i64 (dayP ⟨x.id, x.w, base - x.lag, 0⟩).v, .int .i64 (dayP ⟨x.id, x.w, base - x.lag, 0⟩).day]⟩ : Value) = .agg ⟨pntE (ptI base x)⟩ := rfl
     rw [hpe]
     clear hpe hD
     have hov3 := hov.ext x23
     simp (disch := first|exact dis|fail) only [go_sem, simprocAttr, ↓EU_rg, g1, g4, g6, g27, g28, g29, hB3]
     repeat refine WPo_ob ?_
     have hlit := OW.lit pntE_len h3 [ptI base x]
     rw [List.flatMap_cons, List.flatMap_nil, List.append_nil] at hlit
     have hm1 : ∀ j, blkOf (.slice av ((l.take i).map (ptI base)).length kv) j → h.next ≤ j := fun j hj => by have := hfv j hj; omega
     have hsn : (l.take (i + 1)).map (ptI base) = (l.take i).map (ptI base) ++ [ptI base x] := by rw [List.take_add_one, hx, List.map_append]; rfl
     refine append_gr (l := (l.take i).map (ptI base)) (l' := [ptI base x]) fc_ap_130_130 pntE_len (by decide) pntE_scal (hov3.ext ((Ext.refl h3).push _)) hlit.sl (by rw [List.length_map, List.length_take]; simp only [List.length_cons, List.length_nil]; omega) (by rw [List.length_map, List.length_take]; simp only [List.length_cons, List.length_nil]; omega) fun v' h4 hov' gr => ?_
     rw [← hsn] at hov'
     have hnv : ∀ k, k ≤ h1.next → ¬ blkOf (.slice av ((l.take i).map (ptI base)).length kv) k := fun k hk q => by have := hfv _ q; omega
     have hk3 : ∀ k, k ≤ h1.next → h4.get k = h3.get k := fun k hk => by rw [gr.old _ (by simp only [next_push]; omega) (hnv k hk), get_push_old _ (by omega)]
     have hB' := (hk3 h1.next (by omega)).trans hB3
     have hR' := (hk3 (h.next + 1) (by omega)).trans hR3
     have hn' := gr.le
     simp only [next_push] at hn'
     have hfv' : Fresh (h1.next + 1) v' := gr.fresh hfv (by simp only [next_push]; omega)
     obtain ⟨av', kv', hvv'⟩ := hov'.val
     subst hvv'
     simp (disch := first|exact dis|fail) only [go_sem, simprocAttr, ↓EU_rg, g1, g4, g6, g27, g28, g29, hB, hB3, hB', hov.veq]
     have hm2 : Mod (fun j => h.next ≤ j) h2 (h4.set h1.next (.cells [.int .i64 base, .int .i64 cur, .slice av' ((l.take (i + 1)).map (ptI base)).length kv'] 0)) := ((((x23.mod _).push _).trans (gr.mod.mono fun j _ hj => hm1 j hj))).set _ _ fun _ => by omega
     refine ⟨_, by omega, i + 1, _, _, _, rfl, rfl, by omega, by simp (disch := first|exact dis|fail) only [go_sem, simprocAttr, ↓EU_rg, g1], by simp (disch := first|exact dis|fail) only [go_sem, simprocAttr, ↓EU_rg, g4], by simp (disch := first|exact dis|fail) only [go_sem, simprocAttr, ↓EU_rg, g6], by simp (disch := first|exact dis|fail) only [go_sem, simprocAttr, ↓EU_rg, g27], by simp (disch := first|exact dis|fail) only [go_sem, simprocAttr, ↓EU_rg, g28], by simp (disch := first|exact dis|fail) only [go_sem, simprocAttr, ↓EU_rg], ⟨Nat.le_trans x2.le hm2.le, fun j hj => (hm2.old j (Nat.lt_of_lt_of_le hj x2.le) (by omega)).trans (x2.old j hj)⟩, by simp (disch := first|exact dis|fail) only [go_sem, simprocAttr, ↓EU_rg, hR'], by simp (disch := first|exact dis|fail) only [go_sem, simprocAttr, ↓EU_rg], hov'.mod (Mod.set (S := fun j => j = h1.next) (Mod.refl _ _) _ _ (fun _ => rfl)) (fun j hj q => by have := hfv' j hj; omega), hfv', by rw [next_set]; omega⟩
    ·simp only [decide_eq_false_iff_not] at b1
     have : i = l.length := by omega
     subst this
     rw [List.take_length] at hov
     simp (disch := first|exact dis|fail) only [go_sem, simprocAttr, ↓EU_rg]
     exact ⟨_, _, v, rfl, trivial, by simp (disch := first|exact dis|fail) only [go_sem, simprocAttr, ↓EU_rg, g4], by simp (disch := first|exact dis|fail) only [go_sem, simprocAttr, ↓EU_rg, g6], x2, hR, hB, hov, hfv, hn2⟩
   ·refine ⟨0, _, _, _, rfl, rfl, by omega, by simp (disch := first|exact dis|fail) only [go_sem, simprocAttr, ↓EU_rg], by simp (disch := first|exact dis|fail) only [go_sem, simprocAttr, ↓EU_rg], by simp (disch := first|exact dis|fail) only [go_sem, simprocAttr, ↓EU_rg], by simp (disch := first|exact dis|fail) only [go_sem, simprocAttr, ↓EU_rg], by simp (disch := first|exact dis|fail) only [go_sem, simprocAttr, ↓EU_rg], by simp (disch := first|exact dis|fail) only [go_sem, simprocAttr, ↓EU_rg]; all_goals rfl, xh2.set _ _ (by omega), by simp (disch := first|exact dis|fail) only [go_sem, simprocAttr, ↓EU_rg, hr2], by simp (disch := first|exact dis|fail) only [go_sem, simprocAttr, ↓EU_rg], OW.nil, Fresh.nil _ _ _, by simp only [next_push, next_set]; omega⟩
   ·omega
   ·clear hf2 hr2 hl2 x2 xh2 hn2 h2
    rintro ⟨q, _⟩ ⟨tm, h2, v, rfl, rfl, g4, g6, x2, hR, hB, hov, hfv, hn2⟩
    obtain ⟨av, kv, rfl⟩ := hov.val
    simp (disch := first|exact dis|fail) only [go_sem, simprocAttr, ↓EU_rg, g4, g6, hR, hB]
    exact ⟨x2.set _ _ (by omega), _, rfl, hov.mod (Mod.set (S := fun j => j = h.next + 1) (Mod.refl _ _) _ _ (fun _ => rfl)) (fun j hj q => by have := hfv j hj; omega), hfv.mono (by omega)⟩
noncomputable def INV (P : Program) (O : Orc) (h : Heap) (args : List Value) (m : String) (v : Value) : VH := evInvV P (EVR P O) h args m v

theorem R_invoke {P : Program} {O : Orc} {tm : Fr} {h : Heap} {ms : List Nat} (t : Tmp) (m : String) (args : Array Operand) (ts : Array TypeId) : ROP P O (.call { callee := .invoke (.tmp t) m, args := args, argTypes := ts }) ⟨tm, h, ms⟩ = ob (opnds tm args.toList) fun a => INV P O h a m (Fr.get tm t) := by unfold ROP; rfl
theorem INV_ev {P : Program} {O : Orc} {h : Heap} {t : TypeId} {v x : Value} {f : FuncId} {m : String} {a : List Value} (hm : methV P h 20 t v m = some (f, x)) : INV P O h a m (.iface t v) = EF P O f (x :: a) h := by
 unfold INV evInvV ifaceV
 rw [ob_some]
 simp only
 rw [hm, ob_some]
 rfl
attribute [irreducible] INV
attribute [go_sem] R_invoke
noncomputable def nilP : Value := .pointer none
structure LQ (h : Heap) (b : Nat) (v : Value) (base cur : Int) (l : List Pnt) : Prop where
 lt : b < h.next
 gb : h.get b = .cells [.int .i64 base, .int .i64 cur, v] 0
 ow : OW pntE 4 h v l
theorem LQ.mod {S : Nat → Prop} {h h' : Heap} {b : Nat} {v : Value} {base cur : Int} {l : List Pnt} (q : LQ h b v base cur l) (x : Mod S h h') (h1 : ¬ S b) (h2 : ∀ i, blkOf v i → ¬ S i) : LQ h' b v base cur l := ⟨Nat.lt_of_lt_of_le q.lt x.le, (x.old b q.lt h1).trans q.gb, q.ow.mod x h2⟩
theorem LQ.ext {h h' : Heap} {b : Nat} {v : Value} {base cur : Int} {l : List Pnt} (q : LQ h b v base cur l) (x : Ext h h') : LQ h' b v base cur l := ⟨Nat.lt_of_lt_of_le q.lt x.le, (x.old b q.lt).trans q.gb, q.ow.ext x⟩
theorem ow_cells {α : Type} {e : α → List Value} {es : Nat} {h : Heap} {v : Value} {l : List α} (s : OW e es h v l) {i : Nat} (hi : blkOf v i) : ∃ cs, h.get i = .cells cs es := by
 cases s with
 | nil => exact hi.elim
 | mk b o c l cs hb hc hcap hl hx => cases hi; exact ⟨cs, hc⟩
theorem ow_ne {α : Type} {e : α → List Value} {es : Nat} {h : Heap} {v : Value} {l : List α} (s : OW e es h v l) {b : Nat} {cs : List Value} {es' : Nat} (hb : h.get b = .cells cs es') (hne : es ≠ es') : ¬ blkOf v b := fun hi => by
 obtain ⟨c, e⟩ := ow_cells s hi
 rw [hb] at e
 cases e
 exact hne rfl
noncomputable def Near (base : Int) (l : List Pnt) : Prop := ∀ p ∈ l, -9223372036854775808 ≤ base - p.v ∧ base - p.v < 9223372036854775808
theorem strideOf_ev (s : Value) (e : Int) (base cur : Int) (h : Heap) : WPo (EF Tryz.prog O0 70 [lineV base cur s, .int .i64 e] h) fun q => Ext h q.2 ∧ if e = 0 then ∃ b, q.1 = .tuple ⟨[ptr b 0, .int .i64 0]⟩ ∧ h.next ≤ b ∧ b < q.2.next ∧ q.2.get b = .cells [.int .i64 base, .int .i64 cur, s] 0 else q.1 = .tuple ⟨[nilP, .int .i64 e]⟩ := by
 unfold lineV
 rw [EF_body (O := O0) (by kernel_rfl) Tryz.func70 rfl (rs := [.tmp 4, .tmp 5]) rfl (bad := []) (by kernel_rfl) _ _ (m := 12) rfl]
 simp (disch := first|exact dis|fail) only [go_sem, simprocAttr, ↓EU_rg]
 ((repeat refine WPo_ob ?_); (first | refine WPo_cond (fun b1 => ?_) (fun b1 => ?_) | refine WPo_gard (fun b1 => ?_) (fun b1 => ?_) | refine WPo_gardT (fun b1 => ?_) (fun b1 => ?_)) <;> (try simp only [Bool.not_eq_true', Bool.not_eq_false'] at b1))
 ·simp only [decide_eq_false_iff_not] at b1
  simp (disch := first|exact dis|fail) only [go_sem, simprocAttr, ↓EU_rg, if_neg b1]
  exact ⟨by repeat (first | exact Ext.refl _ | assumption | refine Ext.push ?_ _ | refine Ext.set ?_ _ _ (by first | omega | (simp only [next_push, next_set]; omega))), rfl⟩
 ·simp only [decide_eq_true_eq] at b1
  simp (disch := first|exact dis|fail) only [go_sem, simprocAttr, ↓EU_rg, if_pos b1]
  exact ⟨by repeat (first | exact Ext.refl _ | assumption | refine Ext.push ?_ _ | refine Ext.set ?_ _ _ (by first | omega | (simp only [next_push, next_set]; omega))), _, rfl, Nat.le_succ _, Nat.lt_succ_self _, by simp (disch := first|exact dis|fail) only [go_sem, simprocAttr, ↓EU_rg]⟩
theorem strideSeed_ev (base cur : Int) (l : List Item) (s : Value) (h : Heap) (hs : SL itemE 3 h s l) (hl : l.length < 900000) :
  WPo (EF Tryz.prog O0 67 [formV cur s, .int .i64 base] h) fun q => Ext h q.2 ∧ if bgood base && goodF cur l then ∃ b v, q.1 = .tuple ⟨[ptr b 0, .int .i64 0]⟩ ∧ LQ q.2 b v base cur (l.map (ptI base)) ∧ h.next ≤ b ∧ Fresh h.next v else q.1 = .tuple ⟨[nilP, .int .i64 1]⟩ := by
 have hS := seedLine_ev base cur l s (h.push (.cells [.int .i64 cur, s] 0)) (hs.ext ((Ext.refl h).push _)) hl
 unfold formV at *
 rw [EF_body (O := O0) (by kernel_rfl) Tryz.func67 rfl (rs := [.tmp 4, .tmp 5]) rfl (bad := []) (by kernel_rfl) _ _ (m := 14) rfl]
 simp (disch := first|exact dis|fail) only [go_sem, simprocAttr, ↓EU_rg]
 repeat refine WPo_ob ?_
 refine hS.mono ?_
 rintro ⟨w, h1⟩ ⟨x1, k⟩
 have xh : Ext h h1 := ((Ext.refl h).push _).trans x1
 cases hg : (bgood base && goodF cur l) with
 | false =>
  rw [hg, if_neg (by decide)] at k
  simp only at k
  subst k
  simp (disch := first|exact dis|fail) only [go_sem, simprocAttr, ↓EU_rg]
  repeat refine WPo_ob ?_
  refine (strideOf_ev noS 1 0 0 h1).mono ?_
  rintro ⟨w, h2⟩ ⟨x2, k⟩
  rw [if_neg (by decide)] at k
  simp only at k
  subst k
  simp (disch := first|exact dis|fail) only [go_sem, simprocAttr, ↓EU_rg, if_false, Bool.false_eq_true]
  exact ⟨xh.trans x2, trivial⟩
 | true =>
  rw [hg, if_pos rfl] at k
  obtain ⟨v, e, ov, fv⟩ := k
  simp only at e ov
  subst e
  simp (disch := first|exact dis|fail) only [go_sem, simprocAttr, ↓EU_rg]
  repeat refine WPo_ob ?_
  refine (strideOf_ev v 0 base cur h1).mono ?_
  rintro ⟨w, h2⟩ ⟨x2, k⟩
  rw [if_pos rfl] at k
  obtain ⟨b, e, hb, hb2, hg2⟩ := k
  simp only at e hb2 hg2
  subst e
  simp (disch := first|exact dis|fail) only [go_sem, simprocAttr, ↓EU_rg, if_true]
  exact ⟨xh.trans x2, b, v, rfl, ⟨hb2, hg2, ov.ext x2⟩, Nat.le_trans xh.le hb, fv.mono (by rw [next_push]; omega)⟩
theorem strideNew_ev (base : Int) (h : Heap) :
  WPo (EF Tryz.prog O0 56 [.int .i64 base] h) fun q => Ext h q.2 ∧ if bgood base then ∃ b, q.1 = .tuple ⟨[ptr b 0, .int .i64 0]⟩ ∧ LQ q.2 b noS base (-1) [] ∧ h.next ≤ b else q.1 = .tuple ⟨[nilP, .int .i64 1]⟩ := by
 rw [EF_body (O := O0) (by kernel_rfl) Tryz.func56 rfl (rs := [.tmp 2, .tmp 3]) rfl (bad := []) (by kernel_rfl) _ _ (m := 11) rfl]
 simp (disch := first|exact dis|fail) only [go_sem, simprocAttr, ↓EU_rg]
 repeat refine WPo_ob ?_
 refine (newLine_ev base h).bind fun h1 x1 => ?_
 cases hg : bgood base with
 | false =>
  simp (disch := first|exact dis|fail) only [go_sem, simprocAttr, ↓EU_rg, if_false, Bool.false_eq_true]
  repeat refine WPo_ob ?_
  refine (strideOf_ev noS 1 0 0 h1).mono ?_
  rintro ⟨w, h2⟩ ⟨x2, k⟩
  rw [if_neg (by decide)] at k
  simp only at k
  subst k
  simp (disch := first|exact dis|fail) only [go_sem, simprocAttr, ↓EU_rg, if_false, Bool.false_eq_true]
  exact ⟨x1.trans x2, trivial⟩
 | true =>
  simp (disch := first|exact dis|fail) only [go_sem, simprocAttr, ↓EU_rg, if_true]
  repeat refine WPo_ob ?_
  refine (strideOf_ev noS 0 base (-1) h1).mono ?_
  rintro ⟨w, h2⟩ ⟨x2, k⟩
  rw [if_pos rfl] at k
  obtain ⟨b, e, hb, hb2, hg2⟩ := k
  simp only at e hb2 hg2
  subst e
  simp (disch := first|exact dis|fail) only [go_sem, simprocAttr, ↓EU_rg, if_true]
  exact ⟨x1.trans x2, b, rfl, ⟨hb2, hg2, .nil⟩, Nat.le_trans x1.le hb⟩
theorem strideForm_ev (base cur : Int) (l : List Pnt) (v : Value) (b : Nat) (h : Heap) (q : LQ h b v base cur l) (hl : l.length < 900000) (hw : Near base l) :
  WPo (EF Tryz.prog O0 123 [ptr b 0] h) fun q => ∃ v, q.1 = formV cur v ∧ OW itemE 3 q.2 v (l.map (itP base)) ∧ Fresh h.next v ∧ Ext h q.2 := by
 have hF := lform_ev base cur l v b (h.push (.cells [.int .i64 0, .slice none 0 1] 0)) (by rw [next_push]; exact Nat.lt_succ_of_lt q.lt) (by rw [get_push_old _ q.lt]; exact q.gb) (q.ow.ext ((Ext.refl h).push _)).sl hl hw
 have hb := q.lt
 rw [EF_body (O := O0) (by kernel_rfl) Tryz.func123 rfl (rs := [.cell 2 24]) rfl (bad := []) (by kernel_rfl) _ _ (m := 7) rfl]
 simp (disch := first|exact dis|fail) only [go_sem, simprocAttr, ↓EU_rg]
 repeat refine WPo_ob ?_
 refine hF.mono ?_
 rintro ⟨w, h1⟩ ⟨u, e, ou, fu, x1⟩
 simp only at e ou x1
 subst e
 unfold formV
 have hn1 := x1.le
 rw [next_push] at hn1
 have hc1 : h1.get h.next = .cells [.int .i64 0, .slice none 0 1] 0 := by rw [x1.old _ (by rw [next_push]; omega)]; exact get_push_new _ _
 obtain ⟨au, ku, hu⟩ := ou.val
 subst hu
 simp (disch := first|exact dis|fail) only [go_sem, simprocAttr, ↓EU_rg, hc1]
 refine ⟨_, rfl, ou.mod (Mod.set (S := fun j => j = h.next) (Mod.refl _ _) _ _ (fun _ => rfl)) (fun j hj q => by have := fu j hj; rw [next_push] at this; omega), fu.mono (by rw [next_push]; omega), (((Ext.refl h).push _).trans x1).set _ _ (by omega)⟩
theorem strideFormI_ev (base cur : Int) (l : List Pnt) (v : Value) (b : Nat) (h : Heap) (q : LQ h b v base cur l) (hl : l.length < 900000) (hw : Near base l) :
  WPo (INV Tryz.prog O0 h [] "Form" (.iface 109 (ptr b 0))) fun q => ∃ v, q.1 = formV cur v ∧ OW itemE 3 q.2 v (l.map (itP base)) ∧ Fresh h.next v ∧ Ext h q.2 := by
 have hm : methV Tryz.prog h 20 109 (ptr b 0) "Form" = some (123, ptr b 0) := by kernel_rfl
 rw [INV_ev hm]
 exact strideForm_ev base cur l v b h q hl hw
theorem fairOf_ev (s : Value) (e : Int) (base cur : Int) (h : Heap) : WPo (EF Tryz.prog O0 72 [lineV base cur s, .int .i64 e] h) fun q => Ext h q.2 ∧ if e = 0 then ∃ b, q.1 = .tuple ⟨[ptr b 0, .int .i64 0]⟩ ∧ h.next ≤ b ∧ b < q.2.next ∧ q.2.get b = .cells [.int .i64 base, .int .i64 cur, s] 0 else q.1 = .tuple ⟨[nilP, .int .i64 e]⟩ := by
 unfold lineV
 rw [EF_body (O := O0) (by kernel_rfl) Tryz.func72 rfl (rs := [.tmp 4, .tmp 5]) rfl (bad := []) (by kernel_rfl) _ _ (m := 12) rfl]
 simp (disch := first|exact dis|fail) only [go_sem, simprocAttr, ↓EU_rg]
 ((repeat refine WPo_ob ?_); (first | refine WPo_cond (fun b1 => ?_) (fun b1 => ?_) | refine WPo_gard (fun b1 => ?_) (fun b1 => ?_) | refine WPo_gardT (fun b1 => ?_) (fun b1 => ?_)) <;> (try simp only [Bool.not_eq_true', Bool.not_eq_false'] at b1))
 ·simp only [decide_eq_false_iff_not] at b1
  simp (disch := first|exact dis|fail) only [go_sem, simprocAttr, ↓EU_rg, if_neg b1]
  exact ⟨by repeat (first | exact Ext.refl _ | assumption | refine Ext.push ?_ _ | refine Ext.set ?_ _ _ (by first | omega | (simp only [next_push, next_set]; omega))), rfl⟩
 ·simp only [decide_eq_true_eq] at b1
  simp (disch := first|exact dis|fail) only [go_sem, simprocAttr, ↓EU_rg, if_pos b1]
  exact ⟨by repeat (first | exact Ext.refl _ | assumption | refine Ext.push ?_ _ | refine Ext.set ?_ _ _ (by first | omega | (simp only [next_push, next_set]; omega))), _, rfl, Nat.le_succ _, Nat.lt_succ_self _, by simp (disch := first|exact dis|fail) only [go_sem, simprocAttr, ↓EU_rg]⟩
theorem fairSeed_ev (base cur : Int) (l : List Item) (s : Value) (h : Heap) (hs : SL itemE 3 h s l) (hl : l.length < 900000) :
  WPo (EF Tryz.prog O0 68 [formV cur s, .int .i64 base] h) fun q => Ext h q.2 ∧ if bgood base && goodF cur l then ∃ b v, q.1 = .tuple ⟨[ptr b 0, .int .i64 0]⟩ ∧ LQ q.2 b v base cur (l.map (ptI base)) ∧ h.next ≤ b ∧ Fresh h.next v else q.1 = .tuple ⟨[nilP, .int .i64 1]⟩ := by
 have hS := seedLine_ev base cur l s (h.push (.cells [.int .i64 cur, s] 0)) (hs.ext ((Ext.refl h).push _)) hl
 unfold formV at *
 rw [EF_body (O := O0) (by kernel_rfl) Tryz.func68 rfl (rs := [.tmp 4, .tmp 5]) rfl (bad := []) (by kernel_rfl) _ _ (m := 14) rfl]
 simp (disch := first|exact dis|fail) only [go_sem, simprocAttr, ↓EU_rg]
 repeat refine WPo_ob ?_
 refine hS.mono ?_
 rintro ⟨w, h1⟩ ⟨x1, k⟩
 have xh : Ext h h1 := ((Ext.refl h).push _).trans x1
 cases hg : (bgood base && goodF cur l) with
 | false =>
  rw [hg, if_neg (by decide)] at k
  simp only at k
  subst k
  simp (disch := first|exact dis|fail) only [go_sem, simprocAttr, ↓EU_rg]
  repeat refine WPo_ob ?_
  refine (fairOf_ev noS 1 0 0 h1).mono ?_
  rintro ⟨w, h2⟩ ⟨x2, k⟩
  rw [if_neg (by decide)] at k
  simp only at k
  subst k
  simp (disch := first|exact dis|fail) only [go_sem, simprocAttr, ↓EU_rg, if_false, Bool.false_eq_true]
  exact ⟨xh.trans x2, trivial⟩
 | true =>
  rw [hg, if_pos rfl] at k
  obtain ⟨v, e, ov, fv⟩ := k
  simp only at e ov
  subst e
  simp (disch := first|exact dis|fail) only [go_sem, simprocAttr, ↓EU_rg]
  repeat refine WPo_ob ?_
  refine (fairOf_ev v 0 base cur h1).mono ?_
  rintro ⟨w, h2⟩ ⟨x2, k⟩
  rw [if_pos rfl] at k
  obtain ⟨b, e, hb, hb2, hg2⟩ := k
  simp only at e hb2 hg2
  subst e
  simp (disch := first|exact dis|fail) only [go_sem, simprocAttr, ↓EU_rg, if_true]
  exact ⟨xh.trans x2, b, v, rfl, ⟨hb2, hg2, ov.ext x2⟩, Nat.le_trans xh.le hb, fv.mono (by rw [next_push]; omega)⟩
theorem fairNew_ev (base : Int) (h : Heap) :
  WPo (EF Tryz.prog O0 58 [.int .i64 base] h) fun q => Ext h q.2 ∧ if bgood base then ∃ b, q.1 = .tuple ⟨[ptr b 0, .int .i64 0]⟩ ∧ LQ q.2 b noS base (-1) [] ∧ h.next ≤ b else q.1 = .tuple ⟨[nilP, .int .i64 1]⟩ := by
 rw [EF_body (O := O0) (by kernel_rfl) Tryz.func58 rfl (rs := [.tmp 2, .tmp 3]) rfl (bad := []) (by kernel_rfl) _ _ (m := 11) rfl]
 simp (disch := first|exact dis|fail) only [go_sem, simprocAttr, ↓EU_rg]
 repeat refine WPo_ob ?_
 refine (newLine_ev base h).bind fun h1 x1 => ?_
 cases hg : bgood base with
 | false =>
  simp (disch := first|exact dis|fail) only [go_sem, simprocAttr, ↓EU_rg, if_false, Bool.false_eq_true]
  repeat refine WPo_ob ?_
  refine (fairOf_ev noS 1 0 0 h1).mono ?_
  rintro ⟨w, h2⟩ ⟨x2, k⟩
  rw [if_neg (by decide)] at k
  simp only at k
  subst k
  simp (disch := first|exact dis|fail) only [go_sem, simprocAttr, ↓EU_rg, if_false, Bool.false_eq_true]
  exact ⟨x1.trans x2, trivial⟩
 | true =>
  simp (disch := first|exact dis|fail) only [go_sem, simprocAttr, ↓EU_rg, if_true]
  repeat refine WPo_ob ?_
  refine (fairOf_ev noS 0 base (-1) h1).mono ?_
  rintro ⟨w, h2⟩ ⟨x2, k⟩
  rw [if_pos rfl] at k
  obtain ⟨b, e, hb, hb2, hg2⟩ := k
  simp only at e hb2 hg2
  subst e
  simp (disch := first|exact dis|fail) only [go_sem, simprocAttr, ↓EU_rg, if_true]
  exact ⟨x1.trans x2, b, rfl, ⟨hb2, hg2, .nil⟩, Nat.le_trans x1.le hb⟩
theorem fairForm_ev (base cur : Int) (l : List Pnt) (v : Value) (b : Nat) (h : Heap) (q : LQ h b v base cur l) (hl : l.length < 900000) (hw : Near base l) :
  WPo (EF Tryz.prog O0 143 [ptr b 0] h) fun q => ∃ v, q.1 = formV cur v ∧ OW itemE 3 q.2 v (l.map (itP base)) ∧ Fresh h.next v ∧ Ext h q.2 := by
 have hF := lform_ev base cur l v b (h.push (.cells [.int .i64 0, .slice none 0 1] 0)) (by rw [next_push]; exact Nat.lt_succ_of_lt q.lt) (by rw [get_push_old _ q.lt]; exact q.gb) (q.ow.ext ((Ext.refl h).push _)).sl hl hw
 have hb := q.lt
 rw [EF_body (O := O0) (by kernel_rfl) Tryz.func143 rfl (rs := [.cell 2 24]) rfl (bad := []) (by kernel_rfl) _ _ (m := 7) rfl]
 simp (disch := first|exact dis|fail) only [go_sem, simprocAttr, ↓EU_rg]
 repeat refine WPo_ob ?_
 refine hF.mono ?_
 rintro ⟨w, h1⟩ ⟨u, e, ou, fu, x1⟩
 simp only at e ou x1
 subst e
 unfold formV
 have hn1 := x1.le
 rw [next_push] at hn1
 have hc1 : h1.get h.next = .cells [.int .i64 0, .slice none 0 1] 0 := by rw [x1.old _ (by rw [next_push]; omega)]; exact get_push_new _ _
 obtain ⟨au, ku, hu⟩ := ou.val
 subst hu
 simp (disch := first|exact dis|fail) only [go_sem, simprocAttr, ↓EU_rg, hc1]
 refine ⟨_, rfl, ou.mod (Mod.set (S := fun j => j = h.next) (Mod.refl _ _) _ _ (fun _ => rfl)) (fun j hj q => by have := fu j hj; rw [next_push] at this; omega), fu.mono (by rw [next_push]; omega), (((Ext.refl h).push _).trans x1).set _ _ (by omega)⟩
theorem fairFormI_ev (base cur : Int) (l : List Pnt) (v : Value) (b : Nat) (h : Heap) (q : LQ h b v base cur l) (hl : l.length < 900000) (hw : Near base l) :
  WPo (INV Tryz.prog O0 h [] "Form" (.iface 113 (ptr b 0))) fun q => ∃ v, q.1 = formV cur v ∧ OW itemE 3 q.2 v (l.map (itP base)) ∧ Fresh h.next v ∧ Ext h q.2 := by
 have hm : methV Tryz.prog h 20 113 (ptr b 0) "Form" = some (143, ptr b 0) := by kernel_rfl
 rw [INV_ev hm]
 exact fairForm_ev base cur l v b h q hl hw
theorem dueOf_ev (s : Value) (e : Int) (base cur : Int) (h : Heap) : WPo (EF Tryz.prog O0 73 [lineV base cur s, .int .i64 e] h) fun q => Ext h q.2 ∧ if e = 0 then ∃ b, q.1 = .tuple ⟨[ptr b 0, .int .i64 0]⟩ ∧ h.next ≤ b ∧ b < q.2.next ∧ q.2.get b = .cells [.int .i64 base, .int .i64 cur, s] 0 else q.1 = .tuple ⟨[nilP, .int .i64 e]⟩ := by
 unfold lineV
 rw [EF_body (O := O0) (by kernel_rfl) Tryz.func73 rfl (rs := [.tmp 4, .tmp 5]) rfl (bad := []) (by kernel_rfl) _ _ (m := 12) rfl]
 simp (disch := first|exact dis|fail) only [go_sem, simprocAttr, ↓EU_rg]
 ((repeat refine WPo_ob ?_); (first | refine WPo_cond (fun b1 => ?_) (fun b1 => ?_) | refine WPo_gard (fun b1 => ?_) (fun b1 => ?_) | refine WPo_gardT (fun b1 => ?_) (fun b1 => ?_)) <;> (try simp only [Bool.not_eq_true', Bool.not_eq_false'] at b1))
 ·simp only [decide_eq_false_iff_not] at b1
  simp (disch := first|exact dis|fail) only [go_sem, simprocAttr, ↓EU_rg, if_neg b1]
  exact ⟨by repeat (first | exact Ext.refl _ | assumption | refine Ext.push ?_ _ | refine Ext.set ?_ _ _ (by first | omega | (simp only [next_push, next_set]; omega))), rfl⟩
 ·simp only [decide_eq_true_eq] at b1
  simp (disch := first|exact dis|fail) only [go_sem, simprocAttr, ↓EU_rg, if_pos b1]
  exact ⟨by repeat (first | exact Ext.refl _ | assumption | refine Ext.push ?_ _ | refine Ext.set ?_ _ _ (by first | omega | (simp only [next_push, next_set]; omega))), _, rfl, Nat.le_succ _, Nat.lt_succ_self _, by simp (disch := first|exact dis|fail) only [go_sem, simprocAttr, ↓EU_rg]⟩
theorem dueSeed_ev (base cur : Int) (l : List Item) (s : Value) (h : Heap) (hs : SL itemE 3 h s l) (hl : l.length < 900000) :
  WPo (EF Tryz.prog O0 69 [formV cur s, .int .i64 base] h) fun q => Ext h q.2 ∧ if bgood base && goodF cur l then ∃ b v, q.1 = .tuple ⟨[ptr b 0, .int .i64 0]⟩ ∧ LQ q.2 b v base cur (l.map (ptI base)) ∧ h.next ≤ b ∧ Fresh h.next v else q.1 = .tuple ⟨[nilP, .int .i64 1]⟩ := by
 have hS := seedLine_ev base cur l s (h.push (.cells [.int .i64 cur, s] 0)) (hs.ext ((Ext.refl h).push _)) hl
 unfold formV at *
 rw [EF_body (O := O0) (by kernel_rfl) Tryz.func69 rfl (rs := [.tmp 4, .tmp 5]) rfl (bad := []) (by kernel_rfl) _ _ (m := 14) rfl]
 simp (disch := first|exact dis|fail) only [go_sem, simprocAttr, ↓EU_rg]
 repeat refine WPo_ob ?_
 refine hS.mono ?_
 rintro ⟨w, h1⟩ ⟨x1, k⟩
 have xh : Ext h h1 := ((Ext.refl h).push _).trans x1
 cases hg : (bgood base && goodF cur l) with
 | false =>
  rw [hg, if_neg (by decide)] at k
  simp only at k
  subst k
  simp (disch := first|exact dis|fail) only [go_sem, simprocAttr, ↓EU_rg]
  repeat refine WPo_ob ?_
  refine (dueOf_ev noS 1 0 0 h1).mono ?_
  rintro ⟨w, h2⟩ ⟨x2, k⟩
  rw [if_neg (by decide)] at k
  simp only at k
  subst k
  simp (disch := first|exact dis|fail) only [go_sem, simprocAttr, ↓EU_rg, if_false, Bool.false_eq_true]
  exact ⟨xh.trans x2, trivial⟩
 | true =>
  rw [hg, if_pos rfl] at k
  obtain ⟨v, e, ov, fv⟩ := k
  simp only at e ov
  subst e
  simp (disch := first|exact dis|fail) only [go_sem, simprocAttr, ↓EU_rg]
  repeat refine WPo_ob ?_
  refine (dueOf_ev v 0 base cur h1).mono ?_
  rintro ⟨w, h2⟩ ⟨x2, k⟩
  rw [if_pos rfl] at k
  obtain ⟨b, e, hb, hb2, hg2⟩ := k
  simp only at e hb2 hg2
  subst e
  simp (disch := first|exact dis|fail) only [go_sem, simprocAttr, ↓EU_rg, if_true]
  exact ⟨xh.trans x2, b, v, rfl, ⟨hb2, hg2, ov.ext x2⟩, Nat.le_trans xh.le hb, fv.mono (by rw [next_push]; omega)⟩
theorem dueNew_ev (base : Int) (h : Heap) :
  WPo (EF Tryz.prog O0 59 [.int .i64 base] h) fun q => Ext h q.2 ∧ if bgood base then ∃ b, q.1 = .tuple ⟨[ptr b 0, .int .i64 0]⟩ ∧ LQ q.2 b noS base (-1) [] ∧ h.next ≤ b else q.1 = .tuple ⟨[nilP, .int .i64 1]⟩ := by
 rw [EF_body (O := O0) (by kernel_rfl) Tryz.func59 rfl (rs := [.tmp 2, .tmp 3]) rfl (bad := []) (by kernel_rfl) _ _ (m := 11) rfl]
 simp (disch := first|exact dis|fail) only [go_sem, simprocAttr, ↓EU_rg]
 repeat refine WPo_ob ?_
 refine (newLine_ev base h).bind fun h1 x1 => ?_
 cases hg : bgood base with
 | false =>
  simp (disch := first|exact dis|fail) only [go_sem, simprocAttr, ↓EU_rg, if_false, Bool.false_eq_true]
  repeat refine WPo_ob ?_
  refine (dueOf_ev noS 1 0 0 h1).mono ?_
  rintro ⟨w, h2⟩ ⟨x2, k⟩
  rw [if_neg (by decide)] at k
  simp only at k
  subst k
  simp (disch := first|exact dis|fail) only [go_sem, simprocAttr, ↓EU_rg, if_false, Bool.false_eq_true]
  exact ⟨x1.trans x2, trivial⟩
 | true =>
  simp (disch := first|exact dis|fail) only [go_sem, simprocAttr, ↓EU_rg, if_true]
  repeat refine WPo_ob ?_
  refine (dueOf_ev noS 0 base (-1) h1).mono ?_
  rintro ⟨w, h2⟩ ⟨x2, k⟩
  rw [if_pos rfl] at k
  obtain ⟨b, e, hb, hb2, hg2⟩ := k
  simp only at e hb2 hg2
  subst e
  simp (disch := first|exact dis|fail) only [go_sem, simprocAttr, ↓EU_rg, if_true]
  exact ⟨x1.trans x2, b, rfl, ⟨hb2, hg2, .nil⟩, Nat.le_trans x1.le hb⟩
theorem dueForm_ev (base cur : Int) (l : List Pnt) (v : Value) (b : Nat) (h : Heap) (q : LQ h b v base cur l) (hl : l.length < 900000) (hw : Near base l) :
  WPo (EF Tryz.prog O0 152 [ptr b 0] h) fun q => ∃ v, q.1 = formV cur v ∧ OW itemE 3 q.2 v (l.map (itP base)) ∧ Fresh h.next v ∧ Ext h q.2 := by
 have hF := lform_ev base cur l v b (h.push (.cells [.int .i64 0, .slice none 0 1] 0)) (by rw [next_push]; exact Nat.lt_succ_of_lt q.lt) (by rw [get_push_old _ q.lt]; exact q.gb) (q.ow.ext ((Ext.refl h).push _)).sl hl hw
 have hb := q.lt
 rw [EF_body (O := O0) (by kernel_rfl) Tryz.func152 rfl (rs := [.cell 2 24]) rfl (bad := []) (by kernel_rfl) _ _ (m := 7) rfl]
 simp (disch := first|exact dis|fail) only [go_sem, simprocAttr, ↓EU_rg]
 repeat refine WPo_ob ?_
 refine hF.mono ?_
 rintro ⟨w, h1⟩ ⟨u, e, ou, fu, x1⟩
 simp only at e ou x1
 subst e
 unfold formV
 have hn1 := x1.le
 rw [next_push] at hn1
 have hc1 : h1.get h.next = .cells [.int .i64 0, .slice none 0 1] 0 := by rw [x1.old _ (by rw [next_push]; omega)]; exact get_push_new _ _
 obtain ⟨au, ku, hu⟩ := ou.val
 subst hu
 simp (disch := first|exact dis|fail) only [go_sem, simprocAttr, ↓EU_rg, hc1]
 refine ⟨_, rfl, ou.mod (Mod.set (S := fun j => j = h.next) (Mod.refl _ _) _ _ (fun _ => rfl)) (fun j hj q => by have := fu j hj; rw [next_push] at this; omega), fu.mono (by rw [next_push]; omega), (((Ext.refl h).push _).trans x1).set _ _ (by omega)⟩
theorem dueFormI_ev (base cur : Int) (l : List Pnt) (v : Value) (b : Nat) (h : Heap) (q : LQ h b v base cur l) (hl : l.length < 900000) (hw : Near base l) :
  WPo (INV Tryz.prog O0 h [] "Form" (.iface 116 (ptr b 0))) fun q => ∃ v, q.1 = formV cur v ∧ OW itemE 3 q.2 v (l.map (itP base)) ∧ Fresh h.next v ∧ Ext h q.2 := by
 have hm : methV Tryz.prog h 20 116 (ptr b 0) "Form" = some (152, ptr b 0) := by kernel_rfl
 rw [INV_ev hm]
 exact dueForm_ev base cur l v b h q hl hw
noncomputable def tagT (tag : Int) : TypeId := if tag = 0 then 109 else if tag = 1 then 113 else 116
noncomputable def tgood (tag : Int) : Bool := decide (0 ≤ tag) && decide (tag ≤ 2)
theorem tgood_c {tag : Int} (h : tgood tag = true) : tag = 0 ∨ tag = 1 ∨ tag = 2 := by
 unfold tgood at h
 simp only [Bool.and_eq_true, decide_eq_true_eq] at h
 omega
theorem tgood_f {tag : Int} (h : tgood tag = false) : tag ≠ 0 ∧ tag ≠ 1 ∧ tag ≠ 2 := by
 unfold tgood at h
 simp only [Bool.and_eq_false_iff, decide_eq_false_iff_not] at h
 omega
theorem formI_ev (tag base cur : Int) (l : List Pnt) (v : Value) (b : Nat) (h : Heap) (ht : tgood tag = true) (q : LQ h b v base cur l) (hl : l.length < 900000) (hw : Near base l) :
  WPo (INV Tryz.prog O0 h [] "Form" (.iface (tagT tag) (ptr b 0))) fun q => ∃ v, q.1 = formV cur v ∧ OW itemE 3 q.2 v (l.map (itP base)) ∧ Fresh h.next v ∧ Ext h q.2 := by
 rcases tgood_c ht with rfl | rfl | rfl
 ·exact strideFormI_ev base cur l v b h q hl hw
 ·exact fairFormI_ev base cur l v b h q hl hw
 ·exact dueFormI_ev base cur l v b h q hl hw
structure PQ (h : Heap) (b lb : Nat) (v : Value) (tag base cur : Int) (l : List Pnt) : Prop where
 tg : tgood tag = true
 lt : b < h.next
 gb : h.get b = .cells [.iface (tagT tag) (ptr lb 0), .int .i64 tag] 0
 lq : LQ h lb v base cur l
theorem PQ.ne {h : Heap} {b lb : Nat} {v : Value} {tag base cur : Int} {l : List Pnt} (q : PQ h b lb v tag base cur l) : b ≠ lb := fun e => by
 have h1 := q.gb
 have h2 := q.lq.gb
 rw [e, h2] at h1
 cases h1
theorem PQ.ne1 {h : Heap} {b lb : Nat} {v : Value} {tag base cur : Int} {l : List Pnt} (q : PQ h b lb v tag base cur l) : ¬ blkOf v b := ow_ne q.lq.ow q.gb (by decide)
theorem PQ.ext {h h' : Heap} {b lb : Nat} {v : Value} {tag base cur : Int} {l : List Pnt} (q : PQ h b lb v tag base cur l) (x : Ext h h') : PQ h' b lb v tag base cur l := ⟨q.tg, Nat.lt_of_lt_of_le q.lt x.le, (x.old b q.lt).trans q.gb, q.lq.ext x⟩
theorem PQ.mod {S : Nat → Prop} {h h' : Heap} {b lb : Nat} {v : Value} {tag base cur : Int} {l : List Pnt} (q : PQ h b lb v tag base cur l) (x : Mod S h h') (h1 : ¬ S b) (h2 : ¬ S lb) (h3 : ∀ i, blkOf v i → ¬ S i) : PQ h' b lb v tag base cur l := ⟨q.tg, Nat.lt_of_lt_of_le q.lt x.le, (x.old b q.lt h1).trans q.gb, q.lq.mod x h2 h3⟩
end Go.Proofs.YtddgcakiceodgaaGreat.EV
