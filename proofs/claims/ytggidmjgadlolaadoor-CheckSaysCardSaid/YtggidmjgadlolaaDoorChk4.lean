/- Contract: check.Text. No condition. -/
import Derived.Test.YtggidmjgadlolaaDoorChk3
namespace Go.Proofs.YtggidmjgadlolaaDoor.EV
open Go Go.Proofs
set_option linter.unusedVariables false
set_option linter.unusedSimpArgs false
set_option maxRecDepth 100000
set_option pp.deepTerms false
set_option pp.deepTerms.threshold 20
noncomputable def i64R (n : Int) : Prop := -9223372036854775808 ≤ n ∧ n ≤ 9223372036854775807
theorem itoaB_len {n : Int} (h : i64R n) : 1 ≤ (itoaB n).length ∧ (itoaB n).length ≤ 21 := by
  rw [itoaB_eq h.1 h.2]
  have key : ∀ u : Nat, u < 10 ^ 20 → 1 ≤ (Lib.decDigits u).length ∧ (Lib.decDigits u).length ≤ 20 := fun u hu => by
    refine ⟨?_, ?_⟩
    · rw [Lib.decDigits]
      split
      · exact Nat.le_refl _
      · rw [List.length_append, List.length_singleton]; omega
    · by_cases q : u = 0
      · subst q; rw [Lib.decDigits, dif_pos (by omega)]; simp
      · have := dz_len 20 u hu
        unfold dz at this
        rw [if_neg q] at this
        exact this
  obtain ⟨h1, h2⟩ := h
  unfold Lib.itoa
  split
  · have := key n.natAbs (by omega)
    rw [List.length_cons]; omega
  · have := key n.toNat (by omega)
    omega
noncomputable def FltR (f : Flt) : Prop := i64R f.kind ∧ i64R f.id
noncomputable def fltT (f : Flt) : List UInt8 := (itoaB f.kind ++ [64]) ++ itoaB f.id
noncomputable def txt : List Flt → List UInt8
  | [] => []
  | f :: r => fltT f ++ r.flatMap fun g => 32 :: fltT g
noncomputable def textF (l : List Flt) : List UInt8 := match l with
  | [] => [111, 107]
  | f :: r => txt (f :: r)
theorem txt_snoc (l : List Flt) (x : Flt) : txt (l ++ [x]) = (if l = [] then [] else txt l ++ [32]) ++ fltT x := by
  cases l with
  | nil => simp [txt]
  | cons f r => simp [txt]
theorem fltT_len {f : Flt} (h : FltR f) : (fltT f).length ≤ 43 := by
  have h1 := itoaB_len h.1
  have h2 := itoaB_len h.2
  unfold fltT
  simp only [List.length_append, List.length_singleton]
  omega
theorem txt_len : ∀ (l : List Flt), (∀ f ∈ l, FltR f) → (txt l).length ≤ 44 * l.length
  | [], _ => Nat.zero_le _
  | f :: r, h => by
    have h1 := fltT_len (h f (List.mem_cons_self ..))
    have h2 : ∀ r : List Flt, (∀ f ∈ r, FltR f) → (r.flatMap fun g => 32 :: fltT g).length ≤ 44 * r.length := fun r => by
      induction r with
      | nil => intro _; exact Nat.zero_le _
      | cons g r ih =>
        intro h
        have := fltT_len (h g (List.mem_cons_self ..))
        have := ih fun f hf => h f (List.mem_cons_of_mem _ hf)
        simp only [List.flatMap_cons, List.length_append, List.length_cons]
        omega
    have := h2 r fun g hg => h g (List.mem_cons_of_mem _ hg)
    simp only [txt, List.length_append, List.length_cons]
    omega
set_option maxHeartbeats 1000000 in
theorem text_ev (l : List Flt) (s : Value) (h : Heap) (hs : SL fltE 2 h s l) (hl : l.length < 900000) (hr : ∀ f ∈ l, FltR f) :
    Pu (EF Tryd.prog O0 11 [s] h) h (strV (textF l)) := by
  unfold Pu
  rw [EF_body (O := O0) (by kernel_rfl) Tryd.func11 rfl (rs := [.tmp 2]) rfl (bad := [9]) (by kernel_rfl) _ _ (m := 32) rfl]
  obtain ⟨a, c, hv⟩ := hs.val
  subst hv
  simp (maxSteps := 1000000) (disch := first | decide | omega | (simp only [go_sem]; first | done | omega)) only [go_sem, Int.reduceToNat, Nat.reduceMul, Nat.reduceAdd, Nat.reduceSub, ↓EU_region, ↓EU_draw]
  cases l with
  | nil =>
    simp (maxSteps := 1000000) (disch := first | decide | omega | (simp only [go_sem]; first | done | omega)) only [go_sem, Int.reduceToNat, Nat.reduceMul, Nat.reduceAdd, Nat.reduceSub, ↓EU_region, ↓EU_draw, dec_t, dec_f]
    exact ⟨rfl, Ext.refl _⟩
  | cons f r =>
    have ht : textF (f :: r) = txt (f :: r) := rfl
    have hne : f :: r ≠ [] := by simp
    rw [ht]
    generalize f :: r = l at *
    clear ht
    have hl0 : l.length ≠ 0 := fun e => hne (List.length_eq_zero_iff.1 e)
    have d0 : decide ((l.length : Int) = 0) = false := decide_eq_false (by omega)
    simp (maxSteps := 1000000) (disch := first | decide | omega | (simp only [go_sem]; first | done | omega)) only [go_sem, Int.reduceToNat, Nat.reduceMul, Nat.reduceAdd, Nat.reduceSub, ↓EU_region, ↓EU_draw, d0]
    repeat refine WPo_ob ?_
    refine (LP_rule (fun n st => ∃ (i : Nat) (tm : Fr) (h2 : Heap), st = ⟨tm, h2, []⟩ ∧ n = l.length - i ∧ i ≤ l.length ∧ Fr.get tm 3 = strV (txt (l.take i)) ∧ Fr.get tm 9 = .slice a l.length c ∧ Fr.get tm 10 = .int .i64 l.length ∧ Fr.get tm 11 = .int .i64 i ∧ Ext h h2)
      (fun q => ∃ tm h2, q.2 = ⟨tm, h2, []⟩ ∧ q.1 = .exit 0 ∧ Fr.get tm 3 = strV (txt l) ∧ Ext h h2) ?_ l.length _ _ ?_ ?_).mono ?_
    · rintro n _ ⟨i, tm, h2, rfl, rfl, hi, g3, g9, g10, g11, x2⟩
      simp (maxSteps := 1000000) (disch := first | decide | omega | (simp only [go_sem]; first | done | omega)) only [go_sem, Int.reduceToNat, Nat.reduceMul, Nat.reduceAdd, Nat.reduceSub, ↓EU_region, ↓EU_draw, g3, g9, g10, g11]
      ((repeat refine WPo_ob ?_); (first | refine WPo_cond (fun b1 => ?_) (fun b1 => ?_) | refine WPo_gard (fun b1 => ?_) (fun b1 => ?_) | refine WPo_gardT (fun b1 => ?_) (fun b1 => ?_)) <;> (try simp only [Bool.not_eq_true', Bool.not_eq_false'] at b1))
      · have b1' := b1
        simp only [decide_eq_true_eq] at b1'
        have hi' : i < l.length := by omega
        obtain ⟨x, hx⟩ : ∃ x, l[i]? = some x := ⟨_, List.getElem?_eq_getElem hi'⟩
        obtain ⟨b, o, c', e, hb', hrd, hrr⟩ := (hs.ext x2).at hx rfl
        cases e
        have hwi : wrapF .i64 ((i : Int) + 1) = ((i + 1 : Nat) : Int) := by rw [wrap64 (by omega)]; omega
        have hxr := hr x (List.mem_of_getElem? hx)
        have hk := fun (h : Heap) => itoa_ev x.kind h hxr.1.1 hxr.1.2
        have hd := fun (h : Heap) => itoa_ev x.id h hxr.2.1 hxr.2.2
        have hl1 := itoaB_len hxr.1
        have hl2 := itoaB_len hxr.2
        have htl := txt_len (l.take i) fun f hf => hr f (List.mem_of_mem_take hf)
        rw [List.length_take] at htl
        have hts : txt (l.take (i + 1)) = (if l.take i = [] then [] else txt (l.take i) ++ [32]) ++ fltT x := by rw [List.take_add_one, hx]; exact txt_snoc _ _
        have ha1 : ∀ (P : Program) (t : TypeId) (y z : Operand), evBin P .add t y z (strV (itoaB x.kind)) (.string ⟨#[64]⟩) = some (strV (itoaB x.kind ++ [64])) := fun P t y z => str_add P t y z _ [64] (by rw [List.length_singleton]; omega)
        have ha2 : ∀ (P : Program) (t : TypeId) (y z : Operand), evBin P .add t y z (strV (itoaB x.kind ++ [64])) (strV (itoaB x.id)) = some (strV (fltT x)) := fun P t y z => str_add P t y z _ _ (by rw [List.length_append, List.length_singleton]; omega)
        have hfl := fltT_len hxr
        obtain ⟨p, hp⟩ : ∃ p, p = (if l.take i = [] then [] else txt (l.take i) ++ [32]) := ⟨_, rfl⟩
        rw [← hp] at hts
        have hpl : p.length ≤ 44 * i + 1 := by
          rw [hp]
          split
          · exact Nat.zero_le _
          · rw [List.length_append, List.length_singleton]; omega
        have ha3 : ∀ (P : Program) (t : TypeId) (y z : Operand), evBin P .add t y z (strV p) (strV (fltT x)) = some (strV (p ++ fltT x)) := fun P t y z => str_add P t y z _ _ (by omega)
        have hX2 : (h2.push (.cells (fltE x) 0)).get h2.next = .cells [.int .i64 x.kind, .int .i64 x.id] 0 := get_push_new _ _
        have vk : veq (Value.int .i64 x.kind) (.int .i64 x.kind) = true := by
          have := veqL_flat [Value.int .i64 x.kind] rfl
          rw [veqL_c _ _ _ _ (fun _ h => by cases h) (fun _ h => by cases h), veqL_n, Bool.and_true] at this
          exact this
        rcases Nat.eq_zero_or_pos i with q | q
        · have dz : decide ((i : Int) > 0) = false := decide_eq_false (by omega)
          have htn : l.take i = [] := by rw [q]; rfl
          rw [if_pos htn] at hp
          rw [htn] at g3
          have g3' : Fr.get tm 3 = strV p := by rw [g3, hp]; rfl
          clear g3
          simp (maxSteps := 1000000) (disch := first | decide | omega | (simp only [go_sem]; first | done | omega)) only [go_sem, Int.reduceToNat, Nat.reduceMul, Nat.reduceAdd, Nat.reduceSub, g9, g10, g11, hrd, hwi, dz, g3']
          (first | rw [EU_region] | rw [EU_draw _ _ rfl]); simp (maxSteps := 1000000) (disch := first | decide | omega | (simp only [go_sem]; first | done | omega)) only [go_sem, Int.reduceToNat, Nat.reduceMul, Nat.reduceAdd, Nat.reduceSub, g9, g10, g11, hrd, hwi, dz, g3']
          (first | rw [EU_region] | rw [EU_draw _ _ rfl]); simp (maxSteps := 1000000) (disch := first | decide | omega | (simp only [go_sem]; first | done | omega)) only [go_sem, Int.reduceToNat, Nat.reduceMul, Nat.reduceAdd, Nat.reduceSub, g9, g10, g11, hrd, hwi, dz, g3']
          try ((first | rw [EU_region] | rw [EU_draw _ _ rfl]); simp (maxSteps := 1000000) (disch := first | decide | omega | (simp only [go_sem]; first | done | omega)) only [go_sem, Int.reduceToNat, Nat.reduceMul, Nat.reduceAdd, Nat.reduceSub, g9, g10, g11, hrd, hwi, dz, g3'])
          rw [EU_bad _ _ rfl, EC_tab (tab := [(false, none), (false, none), (false, none), (true, none), (false, none), (false, none), (false, (some (0, 1))), (true, none), (false, none), (false, none), (false, none)]) (by kernel_rfl)]
          simp (maxSteps := 1000000) (disch := first | decide | omega | (simp only [go_sem]; first | done | omega)) only [go_sem, Int.reduceToNat, Nat.reduceMul, Nat.reduceAdd, Nat.reduceSub, ↓EU_region, ↓EU_draw, g9, g10, g11, hrd, hwi, dz, hk, hd, ha1, ha2, ha3, hX2, vk, g3']
          exact ⟨_, by omega, i + 1, _, _, rfl, rfl, by omega, by simp (maxSteps := 1000000) (disch := first | decide | omega | (simp only [go_sem]; first | done | omega)) only [go_sem, Int.reduceToNat, Nat.reduceMul, Nat.reduceAdd, Nat.reduceSub, ↓EU_region, ↓EU_draw]; rw [hts], by simp (maxSteps := 1000000) (disch := first | decide | omega | (simp only [go_sem]; first | done | omega)) only [go_sem, Int.reduceToNat, Nat.reduceMul, Nat.reduceAdd, Nat.reduceSub, ↓EU_region, ↓EU_draw, g9], by simp (maxSteps := 1000000) (disch := first | decide | omega | (simp only [go_sem]; first | done | omega)) only [go_sem, Int.reduceToNat, Nat.reduceMul, Nat.reduceAdd, Nat.reduceSub, ↓EU_region, ↓EU_draw, g10], by simp (maxSteps := 1000000) (disch := first | decide | omega | (simp only [go_sem]; first | done | omega)) only [go_sem, Int.reduceToNat, Nat.reduceMul, Nat.reduceAdd, Nat.reduceSub, ↓EU_region, ↓EU_draw], x2.push _⟩
        · have dz : decide ((i : Int) > 0) = true := decide_eq_true (by omega)
          have htn : l.take i ≠ [] := fun e => by
            have := congrArg List.length e
            rw [List.length_take] at this
            simp only [List.length_nil] at this
            omega
          rw [if_neg htn] at hp
          have ha0 : ∀ (P : Program) (t : TypeId) (y z : Operand), evBin P .add t y z (strV (txt (l.take i))) (.string ⟨#[32]⟩) = some (strV p) := fun P t y z => by rw [hp]; exact str_add P t y z _ [32] (by rw [List.length_singleton]; omega)
          simp (maxSteps := 1000000) (disch := first | decide | omega | (simp only [go_sem]; first | done | omega)) only [go_sem, Int.reduceToNat, Nat.reduceMul, Nat.reduceAdd, Nat.reduceSub, g9, g10, g11, hrd, hwi, dz, g3, ha0]
          (first | rw [EU_region] | rw [EU_draw _ _ rfl]); simp (maxSteps := 1000000) (disch := first | decide | omega | (simp only [go_sem]; first | done | omega)) only [go_sem, Int.reduceToNat, Nat.reduceMul, Nat.reduceAdd, Nat.reduceSub, g9, g10, g11, hrd, hwi, dz, g3, ha0]
          (first | rw [EU_region] | rw [EU_draw _ _ rfl]); simp (maxSteps := 1000000) (disch := first | decide | omega | (simp only [go_sem]; first | done | omega)) only [go_sem, Int.reduceToNat, Nat.reduceMul, Nat.reduceAdd, Nat.reduceSub, g9, g10, g11, hrd, hwi, dz, g3, ha0]
          try ((first | rw [EU_region] | rw [EU_draw _ _ rfl]); simp (maxSteps := 1000000) (disch := first | decide | omega | (simp only [go_sem]; first | done | omega)) only [go_sem, Int.reduceToNat, Nat.reduceMul, Nat.reduceAdd, Nat.reduceSub, g9, g10, g11, hrd, hwi, dz, g3, ha0])
          rw [EU_bad _ _ rfl, EC_tab (tab := [(false, none), (false, none), (false, none), (true, none), (false, none), (false, none), (false, (some (0, 1))), (true, none), (false, none), (false, none), (false, none)]) (by kernel_rfl)]
          simp (maxSteps := 1000000) (disch := first | decide | omega | (simp only [go_sem]; first | done | omega)) only [go_sem, Int.reduceToNat, Nat.reduceMul, Nat.reduceAdd, Nat.reduceSub, ↓EU_region, ↓EU_draw, g9, g10, g11, hrd, hwi, dz, hk, hd, ha1, ha2, ha3, hX2, vk, g3, ha0]
          exact ⟨_, by omega, i + 1, _, _, rfl, rfl, by omega, by simp (maxSteps := 1000000) (disch := first | decide | omega | (simp only [go_sem]; first | done | omega)) only [go_sem, Int.reduceToNat, Nat.reduceMul, Nat.reduceAdd, Nat.reduceSub, ↓EU_region, ↓EU_draw]; rw [hts], by simp (maxSteps := 1000000) (disch := first | decide | omega | (simp only [go_sem]; first | done | omega)) only [go_sem, Int.reduceToNat, Nat.reduceMul, Nat.reduceAdd, Nat.reduceSub, ↓EU_region, ↓EU_draw, g9], by simp (maxSteps := 1000000) (disch := first | decide | omega | (simp only [go_sem]; first | done | omega)) only [go_sem, Int.reduceToNat, Nat.reduceMul, Nat.reduceAdd, Nat.reduceSub, ↓EU_region, ↓EU_draw, g10], by simp (maxSteps := 1000000) (disch := first | decide | omega | (simp only [go_sem]; first | done | omega)) only [go_sem, Int.reduceToNat, Nat.reduceMul, Nat.reduceAdd, Nat.reduceSub, ↓EU_region, ↓EU_draw], x2.push _⟩
      · simp only [decide_eq_false_iff_not] at b1
        have : i = l.length := by omega
        subst this
        rw [List.take_length] at g3
        simp (maxSteps := 1000000) (disch := first | decide | omega | (simp only [go_sem]; first | done | omega)) only [go_sem, Int.reduceToNat, Nat.reduceMul, Nat.reduceAdd, Nat.reduceSub, ↓EU_region, ↓EU_draw]
        exact ⟨_, _, rfl, trivial, by simp (maxSteps := 1000000) (disch := first | decide | omega | (simp only [go_sem]; first | done | omega)) only [go_sem, Int.reduceToNat, Nat.reduceMul, Nat.reduceAdd, Nat.reduceSub, ↓EU_region, ↓EU_draw, g3], x2⟩
    · exact ⟨0, _, _, rfl, rfl, by omega, by simp (maxSteps := 1000000) (disch := first | decide | omega | (simp only [go_sem]; first | done | omega)) only [go_sem, Int.reduceToNat, Nat.reduceMul, Nat.reduceAdd, Nat.reduceSub, ↓EU_region, ↓EU_draw]; rfl, by simp (maxSteps := 1000000) (disch := first | decide | omega | (simp only [go_sem]; first | done | omega)) only [go_sem, Int.reduceToNat, Nat.reduceMul, Nat.reduceAdd, Nat.reduceSub, ↓EU_region, ↓EU_draw], by simp (maxSteps := 1000000) (disch := first | decide | omega | (simp only [go_sem]; first | done | omega)) only [go_sem, Int.reduceToNat, Nat.reduceMul, Nat.reduceAdd, Nat.reduceSub, ↓EU_region, ↓EU_draw], by simp (maxSteps := 1000000) (disch := first | decide | omega | (simp only [go_sem]; first | done | omega)) only [go_sem, Int.reduceToNat, Nat.reduceMul, Nat.reduceAdd, Nat.reduceSub, ↓EU_region, ↓EU_draw]; rfl, Ext.refl _⟩
    · omega
    · rintro ⟨q, _⟩ ⟨tm, h2, rfl, rfl, g3, x2⟩
      simp (maxSteps := 1000000) (disch := first | decide | omega | (simp only [go_sem]; first | done | omega)) only [go_sem, Int.reduceToNat, Nat.reduceMul, Nat.reduceAdd, Nat.reduceSub, ↓EU_region, ↓EU_draw, g3]
      exact ⟨trivial, x2⟩
end Go.Proofs.YtggidmjgadlolaaDoor.EV
