/- Contract: owed.Text; texts tell forms apart. No condition. -/
import Derived.Test.YtmkfdoomoeiibaaDoorItoa
import Derived.Test.YtmkfdoomoeiibaaDoorOwed2
import Derived.Test.YtmkfdoomoeiibaaDoorRowItem
namespace Go.Proofs.YtmkfdoomoeiibaaDoor.EV
open Go Go.Proofs
set_option linter.unusedVariables false
set_option linter.unusedSimpArgs false
set_option maxRecDepth 100000
set_option pp.deepTerms false
set_option pp.deepTerms.threshold 20
noncomputable def ItemR (x : Item) : Prop := i64R x.id ∧ i64R x.w ∧ i64R x.lag
noncomputable def itemT (x : Item) : List UInt8 := (((([32] ++ itoaB x.id) ++ [47]) ++ itoaB x.w) ++ [47]) ++ itoaB x.lag
noncomputable def textO (c : Int) (l : List Item) : List UInt8 := (itoaB c ++ [58]) ++ l.flatMap itemT
theorem itemT_len {x : Item} (h : ItemR x) : (itemT x).length ≤ 70 := by
  have h1 := itoaB_len h.1
  have h2 := itoaB_len h.2.1
  have h3 := itoaB_len h.2.2
  unfold itemT
  simp only [List.length_append, List.length_singleton]
  omega
theorem items_len : ∀ (l : List Item), (∀ x ∈ l, ItemR x) → (l.flatMap itemT).length ≤ 70 * l.length
  | [], _ => Nat.zero_le _
  | x :: l, h => by
    have := itemT_len (h x (List.mem_cons_self ..))
    have := items_len l fun y hy => h y (List.mem_cons_of_mem _ hy)
    simp only [List.flatMap_cons, List.length_append, List.length_cons]
    omega
theorem sep_no {c : UInt8} (hc : digB c = false) (R : List UInt8) : ∀ b r, c :: R = b :: r → digB b = false := fun b r e => by
  rw [← (List.cons.inj e).1]; exact hc
theorem items_inj : ∀ (l m : List Item), (∀ x ∈ l, ItemR x) → (∀ x ∈ m, ItemR x) → l.flatMap itemT = m.flatMap itemT → l = m
  | [], [], _, _, _ => rfl
  | [], y :: m, _, _, h => by simp [itemT] at h
  | x :: l, [], _, _, h => by simp [itemT] at h
  | x :: l, y :: m, hl, hm, h => by
    have hx := hl x (List.mem_cons_self ..)
    have hy := hm y (List.mem_cons_self ..)
    have hno : ∀ l : List Item, ∀ b r, l.flatMap itemT = b :: r → digB b = false := fun l b r e => by
      cases l with
      | nil => cases e
      | cons z l =>
        simp only [List.flatMap_cons, itemT, List.cons_append, List.nil_append, List.append_assoc] at e
        rw [← (List.cons.inj e).1]; decide
    simp only [List.flatMap_cons, itemT, List.cons_append, List.nil_append, List.append_assoc, List.cons.injEq, true_and] at h
    obtain ⟨e1, h⟩ := num_split hx.1 hy.1 (sep_no (by decide) _) (sep_no (by decide) _) h
    obtain ⟨e2, h⟩ := num_split hx.2.1 hy.2.1 (sep_no (by decide) _) (sep_no (by decide) _) (List.cons.inj h).2
    obtain ⟨e3, h⟩ := num_split hx.2.2 hy.2.2 (hno l) (hno m) (List.cons.inj h).2
    have := items_inj l m (fun z hz => hl z (List.mem_cons_of_mem _ hz)) (fun z hz => hm z (List.mem_cons_of_mem _ hz)) h
    subst this
    cases x; cases y
    simp only at e1 e2 e3
    subst e1; subst e2; subst e3
    rfl
theorem textO_inj {c d : Int} {l m : List Item} (hc : i64R c) (hd : i64R d) (hl : ∀ x ∈ l, ItemR x) (hm : ∀ x ∈ m, ItemR x) : textO c l = textO d m ↔ c = d ∧ l = m := by
  constructor
  · intro h
    unfold textO at h
    simp only [List.append_assoc, List.cons_append, List.nil_append] at h
    obtain ⟨e1, h⟩ := num_split hc hd (sep_no (by decide) _) (sep_no (by decide) _) h
    exact ⟨e1, items_inj l m hl hm (List.cons.inj h).2⟩
  · rintro ⟨rfl, rfl⟩; rfl
set_option maxHeartbeats 1000000 in
theorem otext_ev (cur : Int) (l : List Item) (s : Value) (h : Heap) (hs : SL itemE 3 h s l) (hl : l.length < 900000) (hc : i64R cur) (hr : ∀ x ∈ l, ItemR x) :
    Pu (EF Tryd.prog O0 9 [formV cur s] h) h (strV (textO cur l)) := by
  unfold Pu formV
  rw [EF_body (O := O0) (by kernel_rfl) Tryd.func9 rfl (rs := [.tmp 2]) rfl (bad := [5]) (by kernel_rfl) _ _ (m := 35) rfl]
  obtain ⟨a, c, hv⟩ := hs.val
  subst hv
  have hcl := itoaB_len hc
  have hi0 := fun h => itoa_ev cur h hc.1 hc.2
  have ha0 : ∀ (P : Program) (t : TypeId) (y z : Operand), evBin P .add t y z (strV (itoaB cur)) (.string ⟨#[58]⟩) = some (strV (itoaB cur ++ [58])) := fun P t y z => str_add P t y z _ [58] (by rw [List.length_singleton]; omega)
  simp (maxSteps := 1000000) (disch := first | decide | omega | (simp only [go_sem]; first | done | omega)) only [go_sem, Int.reduceToNat, Nat.reduceMul, Nat.reduceAdd, Nat.reduceSub, ↓EU_region, ↓EU_draw, hi0, ha0]
  have htx : ∀ l, textO cur l = (itoaB cur ++ [58]) ++ l.flatMap itemT := fun l => rfl
  obtain ⟨H, hH⟩ : ∃ H, H = itoaB cur ++ [58] := ⟨_, rfl⟩
  have hHl : H.length ≤ 22 := by rw [hH, List.length_append, List.length_singleton]; omega
  rw [htx, ← hH]
  clear hH htx ha0 hi0 hcl
  repeat refine WPo_ob ?_
  refine (LP_rule (fun n st => ∃ (i : Nat) (tm : Fr) (h2 : Heap), st = ⟨tm, h2, []⟩ ∧ n = l.length - i ∧ i ≤ l.length ∧ Fr.get tm 3 = strV (H ++ (l.take i).flatMap itemT) ∧ Fr.get tm 11 = .slice a l.length c ∧ Fr.get tm 12 = .int .i64 l.length ∧ Fr.get tm 13 = .int .i64 i ∧ Ext h h2)
    (fun q => ∃ tm h2, q.2 = ⟨tm, h2, []⟩ ∧ q.1 = .exit 0 ∧ Fr.get tm 3 = strV (H ++ l.flatMap itemT) ∧ Ext h h2) ?_ l.length _ _ ?_ ?_).mono ?_
  · rintro n _ ⟨i, tm, h2, rfl, rfl, hi, g3, g11, g12, g13, x2⟩
    simp (maxSteps := 1000000) (disch := first | decide | omega | (simp only [go_sem]; first | done | omega)) only [go_sem, Int.reduceToNat, Nat.reduceMul, Nat.reduceAdd, Nat.reduceSub, ↓EU_region, ↓EU_draw, g12, g13]
    ((repeat refine WPo_ob ?_); (first | refine WPo_cond (fun b1 => ?_) (fun b1 => ?_) | refine WPo_gard (fun b1 => ?_) (fun b1 => ?_) | refine WPo_gardT (fun b1 => ?_) (fun b1 => ?_)) <;> (try simp only [Bool.not_eq_true', Bool.not_eq_false'] at b1))
    · have b1' := b1
      simp only [decide_eq_true_eq] at b1'
      have hi' : i < l.length := by omega
      obtain ⟨x, hx⟩ : ∃ x, l[i]? = some x := ⟨_, List.getElem?_eq_getElem hi'⟩
      obtain ⟨b, o, c', e, hb', hrd, hrr⟩ := (hs.ext x2).at hx rfl
      cases e
      have hwi : wrapF .i64 ((i : Int) + 1) = ((i + 1 : Nat) : Int) := by rw [wrap64 (by omega)]; omega
      have hxr := hr x (List.mem_of_getElem? hx)
      have k1 := fun (h : Heap) => itoa_ev x.id h hxr.1.1 hxr.1.2
      have k2 := fun (h : Heap) => itoa_ev x.w h hxr.2.1.1 hxr.2.1.2
      have k3 := fun (h : Heap) => fint_ev x.lag h hxr.2.2.1 hxr.2.2.2
      have l1 := itoaB_len hxr.1
      have l2 := itoaB_len hxr.2.1
      have l3 := itoaB_len hxr.2.2
      have htl := items_len (l.take i) fun f hf => hr f (List.mem_of_mem_take hf)
      rw [List.length_take] at htl
      have hts : H ++ (l.take (i + 1)).flatMap itemT = (H ++ (l.take i).flatMap itemT) ++ itemT x := by
        rw [List.take_add_one, hx, List.flatMap_append, ← List.append_assoc]
        simp
      obtain ⟨t1, e1⟩ : ∃ t, t = [32] ++ itoaB x.id := ⟨_, rfl⟩
      obtain ⟨t2, e2⟩ : ∃ t, t = t1 ++ [47] := ⟨_, rfl⟩
      obtain ⟨t3, e3⟩ : ∃ t, t = t2 ++ itoaB x.w := ⟨_, rfl⟩
      obtain ⟨t4, e4⟩ : ∃ t, t = t3 ++ [47] := ⟨_, rfl⟩
      have e5 : itemT x = t4 ++ itoaB x.lag := by rw [e4, e3, e2, e1]; rfl
      have n1 : t1.length ≤ 22 := by rw [e1, List.length_append, List.length_singleton]; omega
      have n2 : t2.length ≤ 23 := by rw [e2, List.length_append, List.length_singleton]; omega
      have n3 : t3.length ≤ 44 := by rw [e3, List.length_append]; omega
      have n4 : t4.length ≤ 45 := by rw [e4, List.length_append, List.length_singleton]; omega
      have s1 : ∀ (P : Program) (t : TypeId) (y z : Operand), evBin P .add t y z (.string ⟨#[32]⟩) (strV (itoaB x.id)) = some (strV t1) := fun P t y z => by rw [e1]; exact str_add P t y z [32] _ (by rw [List.length_singleton]; omega)
      have s2 : ∀ (P : Program) (t : TypeId) (y z : Operand), evBin P .add t y z (strV t1) (.string ⟨#[47]⟩) = some (strV t2) := fun P t y z => by rw [e2]; exact str_add P t y z _ [47] (by rw [List.length_singleton]; omega)
      have s3 : ∀ (P : Program) (t : TypeId) (y z : Operand), evBin P .add t y z (strV t2) (strV (itoaB x.w)) = some (strV t3) := fun P t y z => by rw [e3]; exact str_add P t y z _ _ (by omega)
      have s4 : ∀ (P : Program) (t : TypeId) (y z : Operand), evBin P .add t y z (strV t3) (.string ⟨#[47]⟩) = some (strV t4) := fun P t y z => by rw [e4]; exact str_add P t y z _ [47] (by rw [List.length_singleton]; omega)
      have s5 : ∀ (P : Program) (t : TypeId) (y z : Operand), evBin P .add t y z (strV t4) (strV (itoaB x.lag)) = some (strV (itemT x)) := fun P t y z => by rw [e5]; exact str_add P t y z _ _ (by omega)
      have hil := itemT_len hxr
      have s6 : ∀ (P : Program) (t : TypeId) (y z : Operand), evBin P .add t y z (strV (H ++ (l.take i).flatMap itemT)) (strV (itemT x)) = some (strV ((H ++ (l.take i).flatMap itemT) ++ itemT x)) := fun P t y z => str_add P t y z _ _ (by rw [List.length_append]; omega)
      have hX2 : (h2.push (.cells (itemE x) 0)).get h2.next = .cells [.int .i64 x.id, .int .i64 x.w, .int .i64 x.lag] 0 := get_push_new _ _
      have vk : ∀ k : Int, veq (Value.int .i64 k) (.int .i64 k) = true := fun k => by
        have := veqL_flat [Value.int .i64 k] rfl
        rw [veqL_c _ _ _ _ (fun _ h => by cases h) (fun _ h => by cases h), veqL_n, Bool.and_true] at this
        exact this
      simp (maxSteps := 1000000) (disch := first | decide | omega | (simp only [go_sem]; first | done | omega)) only [go_sem, Int.reduceToNat, Nat.reduceMul, Nat.reduceAdd, Nat.reduceSub, g3, g11, g12, g13, hrd, hwi]
      (first | rw [EU_region] | rw [EU_draw _ _ rfl]); simp (maxSteps := 1000000) (disch := first | decide | omega | (simp only [go_sem]; first | done | omega)) only [go_sem, Int.reduceToNat, Nat.reduceMul, Nat.reduceAdd, Nat.reduceSub, g3, g11, g12, g13, hrd, hwi]
      rw [EU_bad _ _ rfl, EC_tab (tab := [(false, none), (false, none), (false, none), (true, none), (false, none), (false, none), (false, none), (false, (some (0, 1))), (true, none), (false, none), (false, none), (false, none), (false, (some (0, 2))), (true, none), (false, none), (false, none), (false, none)]) (by kernel_rfl)]
      simp (maxSteps := 1000000) (disch := first | decide | omega | (simp only [go_sem]; first | done | omega)) only [go_sem, Int.reduceToNat, Nat.reduceMul, Nat.reduceAdd, Nat.reduceSub, ↓EU_region, ↓EU_draw, g3, g11, g12, g13, hrd, hwi, k1, k2, k3, s1, s2, s3, s4, s5, s6, hX2, vk]
      exact ⟨_, by omega, i + 1, _, _, rfl, rfl, by omega, by simp (maxSteps := 1000000) (disch := first | decide | omega | (simp only [go_sem]; first | done | omega)) only [go_sem, Int.reduceToNat, Nat.reduceMul, Nat.reduceAdd, Nat.reduceSub, ↓EU_region, ↓EU_draw]; rw [hts], by simp (maxSteps := 1000000) (disch := first | decide | omega | (simp only [go_sem]; first | done | omega)) only [go_sem, Int.reduceToNat, Nat.reduceMul, Nat.reduceAdd, Nat.reduceSub, ↓EU_region, ↓EU_draw, g11], by simp (maxSteps := 1000000) (disch := first | decide | omega | (simp only [go_sem]; first | done | omega)) only [go_sem, Int.reduceToNat, Nat.reduceMul, Nat.reduceAdd, Nat.reduceSub, ↓EU_region, ↓EU_draw, g12], by simp (maxSteps := 1000000) (disch := first | decide | omega | (simp only [go_sem]; first | done | omega)) only [go_sem, Int.reduceToNat, Nat.reduceMul, Nat.reduceAdd, Nat.reduceSub, ↓EU_region, ↓EU_draw], x2.push _⟩
    · simp only [decide_eq_false_iff_not] at b1
      have : i = l.length := by omega
      subst this
      rw [List.take_length] at g3
      simp (maxSteps := 1000000) (disch := first | decide | omega | (simp only [go_sem]; first | done | omega)) only [go_sem, Int.reduceToNat, Nat.reduceMul, Nat.reduceAdd, Nat.reduceSub, ↓EU_region, ↓EU_draw]
      exact ⟨_, _, rfl, trivial, by simp (maxSteps := 1000000) (disch := first | decide | omega | (simp only [go_sem]; first | done | omega)) only [go_sem, Int.reduceToNat, Nat.reduceMul, Nat.reduceAdd, Nat.reduceSub, ↓EU_region, ↓EU_draw, g3], x2⟩
  · exact ⟨0, _, _, rfl, rfl, by omega, by simp (maxSteps := 1000000) (disch := first | decide | omega | (simp only [go_sem]; first | done | omega)) only [go_sem, Int.reduceToNat, Nat.reduceMul, Nat.reduceAdd, Nat.reduceSub, ↓EU_region, ↓EU_draw]; simp, by simp (maxSteps := 1000000) (disch := first | decide | omega | (simp only [go_sem]; first | done | omega)) only [go_sem, Int.reduceToNat, Nat.reduceMul, Nat.reduceAdd, Nat.reduceSub, ↓EU_region, ↓EU_draw], by simp (maxSteps := 1000000) (disch := first | decide | omega | (simp only [go_sem]; first | done | omega)) only [go_sem, Int.reduceToNat, Nat.reduceMul, Nat.reduceAdd, Nat.reduceSub, ↓EU_region, ↓EU_draw], by simp (maxSteps := 1000000) (disch := first | decide | omega | (simp only [go_sem]; first | done | omega)) only [go_sem, Int.reduceToNat, Nat.reduceMul, Nat.reduceAdd, Nat.reduceSub, ↓EU_region, ↓EU_draw]; rfl, by repeat (first | exact Ext.refl _ | assumption | refine Ext.push ?_ _ | refine Ext.set ?_ _ _ (by first | omega | (simp only [next_push, next_set]; omega)))⟩
  · omega
  · rintro ⟨q, _⟩ ⟨tm, h2, rfl, rfl, g3, x2⟩
    simp (maxSteps := 1000000) (disch := first | decide | omega | (simp only [go_sem]; first | done | omega)) only [go_sem, Int.reduceToNat, Nat.reduceMul, Nat.reduceAdd, Nat.reduceSub, ↓EU_region, ↓EU_draw, g3]
    exact ⟨trivial, x2⟩
theorem SL.veq' {α : Type} {e : α → List Value} {es : Nat} {h : Heap} {v : Value} {l : List α} (s : SL e es h v l) : veq v v = true := by
  cases s with
  | nil => exact veq_slN _ _
  | mk b o c l cs hb hc hl hx hcap hq => exact veq_slS _ _ _ _
theorem form_veq (c : Int) (a : Option Addr) (n k : Nat) (hv : veq (.slice a n k) (.slice a n k) = true) : veqL [.int .i64 c, .slice a n k] [.int .i64 c, .slice a n k] = true := by
  rw [veqL_c _ _ _ _ (fun _ h => by cases h) (fun _ h => by cases h), veqL_c _ _ _ _ (fun _ h => by cases h) (fun _ h => by cases h), hv, veqL_n, Bool.and_true, Bool.and_true]
  · have := veqL_flat [Value.int .i64 c] rfl
    rw [veqL_c _ _ _ _ (fun _ h => by cases h) (fun _ h => by cases h), veqL_n, Bool.and_true] at this
    exact this
theorem wf_R {n : Int} (h : (Lit.int .i64 n).wf = true) : i64R n := by
  simpa [Lit.wf, IntKind.min, IntKind.max, IntKind.signed, IntKind.bits, i64R] using h
theorem law_OwedTexts (h : Heap) (cf : Int) (wf : (Lit.int .i64 cf).wf = true) (sf : Value) (lf : List Item) (hf : SL itemE 3 h sf lf) (wlf : ∀ z ∈ lf, ItemWf z) (cg : Int) (wg : (Lit.int .i64 cg).wf = true) (sg : Value) (lg : List Item) (hg : SL itemE 3 h sg lg) (wlg : ∀ z ∈ lg, ItemWf z) :
    WPo (EF Tryd.prog O0 3 [formV cf sf, formV cg sg] h) fun q => q.1 = .bool true := by
  rw [EF_body (O := O0) (by kernel_rfl) Tryd.func3 rfl (rs := [.tmp 4]) rfl (bad := [5]) (by kernel_rfl) _ _ (m := 36) rfl]
  obtain ⟨af, kf, hv⟩ := hf.val
  subst hv
  obtain ⟨ag, kg, hv⟩ := hg.val
  subst hv
  unfold formV
  simp (maxSteps := 1000000) (disch := first | decide | omega | (simp only [go_sem]; first | done | omega)) only [go_sem, Int.reduceToNat, Nat.reduceMul, Nat.reduceAdd, Nat.reduceSub, ↓EU_region, ↓EU_draw, awake_ev]
  ((repeat refine WPo_ob ?_); (first | refine WPo_cond (fun b1 => ?_) (fun b1 => ?_) | refine WPo_gard (fun b1 => ?_) (fun b1 => ?_) | refine WPo_gardT (fun b1 => ?_) (fun b1 => ?_)) <;> (try simp only [Bool.not_eq_true', Bool.not_eq_false'] at b1))
  · have b1' := b1
    simp only [decide_eq_false_iff_not] at b1'
    simp (maxSteps := 1000000) (disch := first | decide | omega | (simp only [go_sem]; first | done | omega)) only [go_sem, Int.reduceToNat, Nat.reduceMul, Nat.reduceAdd, Nat.reduceSub, ↓EU_region, ↓EU_draw, b1]
    ((repeat refine WPo_ob ?_); (first | refine WPo_cond (fun b2 => ?_) (fun b2 => ?_) | refine WPo_gard (fun b2 => ?_) (fun b2 => ?_) | refine WPo_gardT (fun b2 => ?_) (fun b2 => ?_)) <;> (try simp only [Bool.not_eq_true', Bool.not_eq_false'] at b2))
    · have b2' := b2
      simp only [decide_eq_false_iff_not] at b2'
      have x0 : Ext h ((h.push (.cells [.int .i64 cf, .slice af lf.length kf] 0)).push (.cells [.int .i64 cg, .slice ag lg.length kg] 0)) := ((Ext.refl h).push _).push _
      have p1 := good_ev cf lf _ _ (hf.ext x0) (by omega)
      unfold formV at p1
      simp (maxSteps := 1000000) (disch := first | decide | omega | (simp only [go_sem]; first | done | omega)) only [go_sem, Int.reduceToNat, Nat.reduceMul, Nat.reduceAdd, Nat.reduceSub, ↓EU_region, ↓EU_draw, b1, b2]
      repeat refine WPo_ob ?_
      refine p1.bind fun h1 x1 => ?_
      have hn1 := x1.le
      simp only [next_push] at hn1
      have o1a : h1.get h.next = .cells [.int .i64 cf, .slice af lf.length kf] 0 := by simp (maxSteps := 1000000) (disch := first | decide | omega | (simp only [go_sem]; first | done | omega)) only [go_sem, Int.reduceToNat, Nat.reduceMul, Nat.reduceAdd, Nat.reduceSub, ↓EU_region, ↓EU_draw, x1.old]
      have o2a : h1.get (h.next + 1) = .cells [.int .i64 cg, .slice ag lg.length kg] 0 := by simp (maxSteps := 1000000) (disch := first | decide | omega | (simp only [go_sem]; first | done | omega)) only [go_sem, Int.reduceToNat, Nat.reduceMul, Nat.reduceAdd, Nat.reduceSub, ↓EU_region, ↓EU_draw, x1.old]
      have y1 : Ext h h1 := x0.trans x1
      cases hGf : goodF cf lf with
      | false => simp (maxSteps := 1000000) (disch := first | decide | omega | (simp only [go_sem]; first | done | omega)) only [go_sem, Int.reduceToNat, Nat.reduceMul, Nat.reduceAdd, Nat.reduceSub, ↓EU_region, ↓EU_draw]
      | true =>
        have p2 := good_ev cg lg _ h1 (hg.ext y1) (by omega)
        unfold formV at p2
        simp (maxSteps := 1000000) (disch := first | decide | omega | (simp only [go_sem]; first | done | omega)) only [go_sem, Int.reduceToNat, Nat.reduceMul, Nat.reduceAdd, Nat.reduceSub, ↓EU_region, ↓EU_draw, o1a, o2a]
        repeat refine WPo_ob ?_
        refine p2.bind fun h2 x2 => ?_
        have y2 : Ext h h2 := y1.trans x2
        have hn2 := x2.le
        have o1b : h2.get h.next = .cells [.int .i64 cf, .slice af lf.length kf] 0 := (x2.old _ (by omega)).trans o1a
        have o2b : h2.get (h.next + 1) = .cells [.int .i64 cg, .slice ag lg.length kg] 0 := (x2.old _ (by omega)).trans o2a
        cases hGg : goodF cg lg with
        | false => simp (maxSteps := 1000000) (disch := first | decide | omega | (simp only [go_sem]; first | done | omega)) only [go_sem, Int.reduceToNat, Nat.reduceMul, Nat.reduceAdd, Nat.reduceSub, ↓EU_region, ↓EU_draw]
        | true =>
          have rf : ∀ x ∈ lf, ItemR x := fun x hx => ⟨wf_R (wlf x hx).1, wf_R (wlf x hx).2.1, wf_R (wlf x hx).2.2⟩
          have rg : ∀ x ∈ lg, ItemR x := fun x hx => ⟨wf_R (wlg x hx).1, wf_R (wlg x hx).2.1, wf_R (wlg x hx).2.2⟩
          have vf : veqL [Value.int .i64 cf, .slice af lf.length kf] [Value.int .i64 cf, .slice af lf.length kf] = true := form_veq _ _ _ _ hf.veq'
          have vg : veqL [Value.int .i64 cg, .slice ag lg.length kg] [Value.int .i64 cg, .slice ag lg.length kg] = true := form_veq _ _ _ _ hg.veq'
          have p3 := otext_ev cf lf _ h2 (hf.ext y2) (by omega) (wf_R wf) rf
          unfold formV at p3
          simp (maxSteps := 1000000) (disch := first | decide | omega | (simp only [go_sem]; first | done | omega)) only [go_sem, Int.reduceToNat, Nat.reduceMul, Nat.reduceAdd, Nat.reduceSub]
          rw [EU_bad _ _ rfl, EC_tab (tab := [(false, none), (true, none), (false, (some (0, 1))), (true, none), (false, none), (false, (some (0, 2))), (false, (some (0, 2))), (true, none), (false, none), (false, none)]) (by kernel_rfl)]
          simp (maxSteps := 1000000) (disch := first | decide | omega | (simp only [go_sem]; first | done | omega)) only [go_sem, Int.reduceToNat, Nat.reduceMul, Nat.reduceAdd, Nat.reduceSub, ↓EU_region, ↓EU_draw, o1b, o2b]
          repeat refine WPo_ob ?_
          refine p3.bind fun h3 x3 => ?_
          have y3 : Ext h h3 := y2.trans x3
          have hn3 := x3.le
          have o1c : h3.get h.next = .cells [.int .i64 cf, .slice af lf.length kf] 0 := (x3.old _ (by omega)).trans o1b
          have o2c : h3.get (h.next + 1) = .cells [.int .i64 cg, .slice ag lg.length kg] 0 := (x3.old _ (by omega)).trans o2b
          have p4 := otext_ev cg lg _ h3 (hg.ext y3) (by omega) (wf_R wg) rg
          unfold formV at p4
          simp (maxSteps := 1000000) (disch := first | decide | omega | (simp only [go_sem]; first | done | omega)) only [go_sem, Int.reduceToNat, Nat.reduceMul, Nat.reduceAdd, Nat.reduceSub, ↓EU_region, ↓EU_draw, o1b, o2b, o1c, o2c]
          repeat refine WPo_ob ?_
          refine p4.bind fun h4 x4 => ?_
          have y4 : Ext h h4 := y3.trans x4
          have hn4 := x4.le
          have o1d : h4.get h.next = .cells [.int .i64 cf, .slice af lf.length kf] 0 := (x4.old _ (by omega)).trans o1c
          have o2d : h4.get (h.next + 1) = .cells [.int .i64 cg, .slice ag lg.length kg] 0 := (x4.old _ (by omega)).trans o2c
          have p5 := same_ev cf cg lf lg _ _ h4 (hf.ext y4) (hg.ext y4) (by omega)
          unfold formV at p5
          simp (maxSteps := 1000000) (disch := first | decide | omega | (simp only [go_sem]; first | done | omega)) only [go_sem, Int.reduceToNat, Nat.reduceMul, Nat.reduceAdd, Nat.reduceSub, ↓EU_region, ↓EU_draw, o1b, o2b, o1c, o2c, o1d, o2d, vf, vg]
          repeat refine WPo_ob ?_
          refine p5.bind fun h5 x5 => ?_
          have o1e : h5.get h.next = .cells [.int .i64 cf, .slice af lf.length kf] 0 := (x5.old _ (by omega)).trans o1d
          have o2e : h5.get (h.next + 1) = .cells [.int .i64 cg, .slice ag lg.length kg] 0 := (x5.old _ (by omega)).trans o2d
          have hin : decide (textO cf lf = textO cg lg) = (decide (cf = cg) && decide (lf = lg)) := by
            rw [Bool.eq_iff_iff, decide_eq_true_eq, Bool.and_eq_true, decide_eq_true_eq, decide_eq_true_eq]
            exact textO_inj (wf_R wf) (wf_R wg) rf rg
          have hbb : ∀ b : Bool, (b == b) = true := fun b => by cases b <;> rfl
          simp (maxSteps := 1000000) (disch := first | decide | omega | (simp only [go_sem]; first | done | omega)) only [go_sem, Int.reduceToNat, Nat.reduceMul, Nat.reduceAdd, Nat.reduceSub, ↓EU_region, ↓EU_draw, o1b, o2b, o1c, o2c, o1d, o2d, o1e, o2e, vf, vg, hin, hbb]
    · simp (maxSteps := 1000000) (disch := first | decide | omega | (simp only [go_sem]; first | done | omega)) only [go_sem, Int.reduceToNat, Nat.reduceMul, Nat.reduceAdd, Nat.reduceSub, ↓EU_region, ↓EU_draw, b2]
  · simp (maxSteps := 1000000) (disch := first | decide | omega | (simp only [go_sem]; first | done | omega)) only [go_sem, Int.reduceToNat, Nat.reduceMul, Nat.reduceAdd, Nat.reduceSub, ↓EU_region, ↓EU_draw, b1]
end Go.Proofs.YtmkfdoomoeiibaaDoor.EV
