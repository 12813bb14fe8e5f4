/- Contracts: the reference's FaultsText, the statements' same. No condition. -/
import Derived.Test.YtggidmjgadlolaaDoorRfl2
import Derived.Test.YtggidmjgadlolaaDoorChk4
import Derived.Test.YtggidmjgadlolaaDoorOwn
namespace Go.Proofs.YtggidmjgadlolaaDoor.EV
open Go Go.Proofs
set_option linter.unusedVariables false
set_option linter.unusedSimpArgs false
set_option maxRecDepth 100000
set_option pp.deepTerms false
set_option pp.deepTerms.threshold 20
set_option maxHeartbeats 1000000 in
theorem rtext_ev (l : List Flt) (s : Value) (h : Heap) (hs : SL fltE 2 h s l) (hl : l.length < 900000) (hr : ∀ f ∈ l, FltR f) :
    Pu (EF Tryd.prog O0 16 [s] h) h (strV (textF l)) := by
  unfold Pu
  rw [EF_body (O := O0) (by kernel_rfl) Tryd.func16 rfl (rs := [.tmp 2]) rfl (bad := [9]) (by kernel_rfl) _ _ (m := 35) rfl]
  obtain ⟨a, c, hv⟩ := hs.val
  subst hv
  simp (maxSteps := 1000000) (disch := first | decide | omega | (simp only [go_sem]; first | done | omega)) only [go_sem, Int.reduceToNat, Nat.reduceMul, Nat.reduceAdd, Nat.reduceSub, ↓EU_region, ↓EU_draw]
  cases l with
  | nil =>
    simp (maxSteps := 1000000) (disch := first | decide | omega | (simp only [go_sem]; first | done | omega)) only [go_sem, Int.reduceToNat, Nat.reduceMul, Nat.reduceAdd, Nat.reduceSub, ↓EU_region, ↓EU_draw, dec_t, dec_f]
    exact ⟨rfl, Ext.refl _⟩
  | cons f r =>
    have ht : textF (f :: r) = txt (f :: r) := rfl
    have hne : f :: r ≠ [] := by simp
    rw [ht]
    generalize f :: r = l at *
    clear ht
    have hl0 : l.length ≠ 0 := fun e => hne (List.length_eq_zero_iff.1 e)
    have d0 : decide ((l.length : Int) = 0) = false := decide_eq_false (by omega)
    simp (maxSteps := 1000000) (disch := first | decide | omega | (simp only [go_sem]; first | done | omega)) only [go_sem, Int.reduceToNat, Nat.reduceMul, Nat.reduceAdd, Nat.reduceSub, ↓EU_region, ↓EU_draw, d0]
    repeat refine WPo_ob ?_
    refine (LP_rule (fun n st => ∃ (i : Nat) (tm : Fr) (h2 : Heap), st = ⟨tm, h2, []⟩ ∧ n = l.length - i ∧ i ≤ l.length ∧ Fr.get tm 0 = .slice a l.length c ∧ Fr.get tm 3 = strV (txt (l.take i)) ∧ Fr.get tm 4 = .int .i64 i ∧ Ext h h2)
      (fun q => ∃ tm h2, q.2 = ⟨tm, h2, []⟩ ∧ q.1 = .exit 0 ∧ Fr.get tm 3 = strV (txt l) ∧ Ext h h2) ?_ l.length _ _ ?_ ?_).mono ?_
    · rintro n _ ⟨i, tm, h2, rfl, rfl, hi, g0, g3, g4, x2⟩
      simp (maxSteps := 1000000) (disch := first | decide | omega | (simp only [go_sem]; first | done | omega)) only [go_sem, Int.reduceToNat, Nat.reduceMul, Nat.reduceAdd, Nat.reduceSub, ↓EU_region, ↓EU_draw, g0, g3, g4]
      ((repeat refine WPo_ob ?_); (first | refine WPo_cond (fun b1 => ?_) (fun b1 => ?_) | refine WPo_gard (fun b1 => ?_) (fun b1 => ?_) | refine WPo_gardT (fun b1 => ?_) (fun b1 => ?_)) <;> (try simp only [Bool.not_eq_true', Bool.not_eq_false'] at b1))
      · have b1' := b1
        simp only [decide_eq_true_eq] at b1'
        have hi' : i < l.length := by omega
        obtain ⟨x, hx⟩ : ∃ x, l[i]? = some x := ⟨_, List.getElem?_eq_getElem hi'⟩
        obtain ⟨b, o, c', e, hb', hrd, hrr⟩ := (hs.ext x2).at hx rfl
        cases e
        have hr0 := hrr 0 _ rfl
        rw [add_z] at hr0
        have hr1 := hrr 1 _ rfl
        have hi0 : ((i : Int)).toNat = i := by omega
        have hwi : wrapF .i64 ((i : Int) + 1) = ((i + 1 : Nat) : Int) := by rw [wrap64 (by omega)]; omega
        have hxr := hr x (List.mem_of_getElem? hx)
        have hk := fun (h : Heap) => num_ev x.kind h hxr.1.1 hxr.1.2
        have hd := fun (h : Heap) => num_ev x.id h hxr.2.1 hxr.2.2
        have hl1 := itoaB_len hxr.1
        have hl2 := itoaB_len hxr.2
        have htl := txt_len (l.take i) fun f hf => hr f (List.mem_of_mem_take hf)
        rw [List.length_take] at htl
        have hts : txt (l.take (i + 1)) = (if l.take i = [] then [] else txt (l.take i) ++ [32]) ++ fltT x := by rw [List.take_add_one, hx]; exact txt_snoc _ _
        obtain ⟨p, hp⟩ : ∃ p, p = (if l.take i = [] then [] else txt (l.take i) ++ [32]) := ⟨_, rfl⟩
        rw [← hp] at hts
        have hpl : p.length ≤ 44 * i + 1 := by
          rw [hp]
          split
          · exact Nat.zero_le _
          · rw [List.length_append, List.length_singleton]; omega
        obtain ⟨t1, e1⟩ : ∃ t, t = p ++ itoaB x.kind := ⟨_, rfl⟩
        obtain ⟨t2, e2⟩ : ∃ t, t = t1 ++ [64] := ⟨_, rfl⟩
        have e3 : t2 ++ itoaB x.id = p ++ fltT x := by rw [e2, e1]; unfold fltT; simp only [List.append_assoc]
        have n1 : t1.length ≤ 44 * i + 22 := by rw [e1, List.length_append]; omega
        have n2 : t2.length ≤ 44 * i + 23 := by rw [e2, List.length_append, List.length_singleton]; omega
        have ha1 : ∀ (P : Program) (t : TypeId) (y z : Operand), evBin P .add t y z (strV p) (strV (itoaB x.kind)) = some (strV t1) := fun P t y z => by rw [e1]; exact str_add P t y z _ _ (by omega)
        have ha2 : ∀ (P : Program) (t : TypeId) (y z : Operand), evBin P .add t y z (strV t1) (.string ⟨#[64]⟩) = some (strV t2) := fun P t y z => by rw [e2]; exact str_add P t y z _ [64] (by rw [List.length_singleton]; omega)
        have ha3 : ∀ (P : Program) (t : TypeId) (y z : Operand), evBin P .add t y z (strV t2) (strV (itoaB x.id)) = some (strV (t2 ++ itoaB x.id)) := fun P t y z => str_add P t y z _ _ (by omega)
        have vk : ∀ k : Int, veq (Value.int .i64 k) (.int .i64 k) = true := fun k => by
          have := veqL_flat [Value.int .i64 k] rfl
          rw [veqL_c _ _ _ _ (fun _ h => by cases h) (fun _ h => by cases h), veqL_n, Bool.and_true] at this
          exact this
        rcases Nat.eq_zero_or_pos i with q | q
        · have dz : decide ((i : Int) > 0) = false := decide_eq_false (by omega)
          have htn : l.take i = [] := by rw [q]; rfl
          rw [if_pos htn] at hp
          rw [htn] at g3
          have g3' : Fr.get tm 3 = strV p := by rw [g3, hp]; rfl
          clear g3
          simp (maxSteps := 1000000) (disch := first | decide | omega | (simp only [go_sem]; first | done | omega)) only [go_sem, Int.reduceToNat, Nat.reduceMul, Nat.reduceAdd, Nat.reduceSub, g0, g4, hr0, hr1, hi0, hwi, dz, g3']
          (first | rw [EU_region] | rw [EU_draw _ _ rfl]); simp (maxSteps := 1000000) (disch := first | decide | omega | (simp only [go_sem]; first | done | omega)) only [go_sem, Int.reduceToNat, Nat.reduceMul, Nat.reduceAdd, Nat.reduceSub, g0, g4, hr0, hr1, hi0, hwi, dz, g3']
          try ((first | rw [EU_region] | rw [EU_draw _ _ rfl]); simp (maxSteps := 1000000) (disch := first | decide | omega | (simp only [go_sem]; first | done | omega)) only [go_sem, Int.reduceToNat, Nat.reduceMul, Nat.reduceAdd, Nat.reduceSub, g0, g4, hr0, hr1, hi0, hwi, dz, g3'])
          rw [EU_bad _ _ rfl, EC_tab (tab := [(false, none), (false, none), (false, none), (false, none), (false, none), (false, none), (true, none), (false, none), (false, none), (false, none), (false, none), (false, none), (false, none), (false, (some (0, 1))), (true, none), (false, none), (false, none)]) (by kernel_rfl)]
          simp (maxSteps := 1000000) (disch := first | decide | omega | (simp only [go_sem]; first | done | omega)) only [go_sem, Int.reduceToNat, Nat.reduceMul, Nat.reduceAdd, Nat.reduceSub, ↓EU_region, ↓EU_draw, g0, g4, hr0, hr1, hi0, hwi, dz, hk, hd, ha1, ha2, ha3, vk, g3']
          exact ⟨_, by omega, i + 1, _, _, rfl, rfl, by omega, by simp (maxSteps := 1000000) (disch := first | decide | omega | (simp only [go_sem]; first | done | omega)) only [go_sem, Int.reduceToNat, Nat.reduceMul, Nat.reduceAdd, Nat.reduceSub, ↓EU_region, ↓EU_draw, g0], by simp (maxSteps := 1000000) (disch := first | decide | omega | (simp only [go_sem]; first | done | omega)) only [go_sem, Int.reduceToNat, Nat.reduceMul, Nat.reduceAdd, Nat.reduceSub, ↓EU_region, ↓EU_draw]; rw [hts, ← e3], by simp (maxSteps := 1000000) (disch := first | decide | omega | (simp only [go_sem]; first | done | omega)) only [go_sem, Int.reduceToNat, Nat.reduceMul, Nat.reduceAdd, Nat.reduceSub, ↓EU_region, ↓EU_draw], x2⟩
        · have dz : decide ((i : Int) > 0) = true := decide_eq_true (by omega)
          have htn : l.take i ≠ [] := fun e => by
            have := congrArg List.length e
            rw [List.length_take] at this
            simp only [List.length_nil] at this
            omega
          rw [if_neg htn] at hp
          have ha0 : ∀ (P : Program) (t : TypeId) (y z : Operand), evBin P .add t y z (strV (txt (l.take i))) (.string ⟨#[32]⟩) = some (strV p) := fun P t y z => by rw [hp]; exact str_add P t y z _ [32] (by rw [List.length_singleton]; omega)
          simp (maxSteps := 1000000) (disch := first | decide | omega | (simp only [go_sem]; first | done | omega)) only [go_sem, Int.reduceToNat, Nat.reduceMul, Nat.reduceAdd, Nat.reduceSub, g0, g4, hr0, hr1, hi0, hwi, dz, g3, ha0]
          (first | rw [EU_region] | rw [EU_draw _ _ rfl]); simp (maxSteps := 1000000) (disch := first | decide | omega | (simp only [go_sem]; first | done | omega)) only [go_sem, Int.reduceToNat, Nat.reduceMul, Nat.reduceAdd, Nat.reduceSub, g0, g4, hr0, hr1, hi0, hwi, dz, g3, ha0]
          try ((first | rw [EU_region] | rw [EU_draw _ _ rfl]); simp (maxSteps := 1000000) (disch := first | decide | omega | (simp only [go_sem]; first | done | omega)) only [go_sem, Int.reduceToNat, Nat.reduceMul, Nat.reduceAdd, Nat.reduceSub, g0, g4, hr0, hr1, hi0, hwi, dz, g3, ha0])
          rw [EU_bad _ _ rfl, EC_tab (tab := [(false, none), (false, none), (false, none), (false, none), (false, none), (false, none), (true, none), (false, none), (false, none), (false, none), (false, none), (false, none), (false, none), (false, (some (0, 1))), (true, none), (false, none), (false, none)]) (by kernel_rfl)]
          simp (maxSteps := 1000000) (disch := first | decide | omega | (simp only [go_sem]; first | done | omega)) only [go_sem, Int.reduceToNat, Nat.reduceMul, Nat.reduceAdd, Nat.reduceSub, ↓EU_region, ↓EU_draw, g0, g4, hr0, hr1, hi0, hwi, dz, hk, hd, ha1, ha2, ha3, vk, g3, ha0]
          exact ⟨_, by omega, i + 1, _, _, rfl, rfl, by omega, by simp (maxSteps := 1000000) (disch := first | decide | omega | (simp only [go_sem]; first | done | omega)) only [go_sem, Int.reduceToNat, Nat.reduceMul, Nat.reduceAdd, Nat.reduceSub, ↓EU_region, ↓EU_draw, g0], by simp (maxSteps := 1000000) (disch := first | decide | omega | (simp only [go_sem]; first | done | omega)) only [go_sem, Int.reduceToNat, Nat.reduceMul, Nat.reduceAdd, Nat.reduceSub, ↓EU_region, ↓EU_draw]; rw [hts, ← e3], by simp (maxSteps := 1000000) (disch := first | decide | omega | (simp only [go_sem]; first | done | omega)) only [go_sem, Int.reduceToNat, Nat.reduceMul, Nat.reduceAdd, Nat.reduceSub, ↓EU_region, ↓EU_draw], x2⟩
      · simp only [decide_eq_false_iff_not] at b1
        have : i = l.length := by omega
        subst this
        rw [List.take_length] at g3
        simp (maxSteps := 1000000) (disch := first | decide | omega | (simp only [go_sem]; first | done | omega)) only [go_sem, Int.reduceToNat, Nat.reduceMul, Nat.reduceAdd, Nat.reduceSub, ↓EU_region, ↓EU_draw]
        exact ⟨_, _, rfl, trivial, by simp (maxSteps := 1000000) (disch := first | decide | omega | (simp only [go_sem]; first | done | omega)) only [go_sem, Int.reduceToNat, Nat.reduceMul, Nat.reduceAdd, Nat.reduceSub, ↓EU_region, ↓EU_draw, g3], x2⟩
    · exact ⟨0, _, _, rfl, rfl, by omega, by simp (maxSteps := 1000000) (disch := first | decide | omega | (simp only [go_sem]; first | done | omega)) only [go_sem, Int.reduceToNat, Nat.reduceMul, Nat.reduceAdd, Nat.reduceSub, ↓EU_region, ↓EU_draw], by simp (maxSteps := 1000000) (disch := first | decide | omega | (simp only [go_sem]; first | done | omega)) only [go_sem, Int.reduceToNat, Nat.reduceMul, Nat.reduceAdd, Nat.reduceSub, ↓EU_region, ↓EU_draw]; rfl, by simp (maxSteps := 1000000) (disch := first | decide | omega | (simp only [go_sem]; first | done | omega)) only [go_sem, Int.reduceToNat, Nat.reduceMul, Nat.reduceAdd, Nat.reduceSub, ↓EU_region, ↓EU_draw]; rfl, Ext.refl _⟩
    · omega
    · rintro ⟨q, _⟩ ⟨tm, h2, rfl, rfl, g3, x2⟩
      simp (maxSteps := 1000000) (disch := first | decide | omega | (simp only [go_sem]; first | done | omega)) only [go_sem, Int.reduceToNat, Nat.reduceMul, Nat.reduceAdd, Nat.reduceSub, ↓EU_region, ↓EU_draw, g3]
      exact ⟨trivial, x2⟩
theorem fsame_ev (l : List Flt) (s t : Value) (h : Heap) (hs : SL fltE 2 h s l) (ht : SL fltE 2 h t l) (hl : l.length < 900000) :
    EF Tryd.prog O0 12 [s, t] h = some (.bool true, h) := by
  have : WPo (EF Tryd.prog O0 12 [s, t] h) fun q => q = (.bool true, h) := by
    rw [EF_body (O := O0) (by kernel_rfl) Tryd.func12 rfl (rs := [.tmp 4]) rfl (bad := []) (by kernel_rfl) _ _ (m := 41) rfl]
    obtain ⟨a, c, hv⟩ := hs.val
    subst hv
    obtain ⟨a2, c2, hv⟩ := ht.val
    subst hv
    have dt : decide ((l.length : Int) = l.length) = true := decide_eq_true rfl
    simp (maxSteps := 1000000) (disch := first | decide | omega | (simp only [go_sem]; first | done | omega)) only [go_sem, Int.reduceToNat, Nat.reduceMul, Nat.reduceAdd, Nat.reduceSub, ↓EU_region, ↓EU_draw, dt]
    repeat refine WPo_ob ?_
    refine (LP_rule (fun k st => ∃ i tm, st = ⟨tm, h, []⟩ ∧ k = l.length - i ∧ i ≤ l.length ∧ Fr.get tm 0 = .slice a l.length c ∧ Fr.get tm 1 = .slice a2 l.length c2 ∧ Fr.get tm 5 = .int .i64 i)
      (fun q => ∃ tm, q.2 = ⟨tm, h, []⟩ ∧ q.1 = .exit 0) ?_ l.length _ _ ?_ ?_).mono ?_
    · rintro k _ ⟨i, tm, rfl, rfl, hi, g0, g1, g5⟩
      simp (maxSteps := 1000000) (disch := first | decide | omega | (simp only [go_sem]; first | done | omega)) only [go_sem, Int.reduceToNat, Nat.reduceMul, Nat.reduceAdd, Nat.reduceSub, ↓EU_region, ↓EU_draw, g0, g5]
      ((repeat refine WPo_ob ?_); (first | refine WPo_cond (fun b2 => ?_) (fun b2 => ?_) | refine WPo_gard (fun b2 => ?_) (fun b2 => ?_) | refine WPo_gardT (fun b2 => ?_) (fun b2 => ?_)) <;> (try simp only [Bool.not_eq_true', Bool.not_eq_false'] at b2))
      · simp only [decide_eq_true_eq] at b2
        have hi' : i < l.length := by omega
        obtain ⟨x, hx⟩ : ∃ x, l[i]? = some x := ⟨_, List.getElem?_eq_getElem hi'⟩
        obtain ⟨b, o, c', e, hb', hrd, hr⟩ := hs.at hx rfl
        cases e
        obtain ⟨b', o', c', e, hb'', hrd', hr'⟩ := ht.at hx rfl
        cases e
        have h0 := hr 0 _ rfl
        rw [add_z] at h0
        have h0' := hr' 0 _ rfl
        rw [add_z] at h0'
        have h1 := hr 1 _ rfl
        have h1' := hr' 1 _ rfl
        have hi0 : ((i : Int)).toNat = i := by omega
        have de : ∀ z : Int, decide (z = z) = true := fun z => decide_eq_true rfl
        have hwi : wrapF .i64 ((i : Int) + 1) = ((i + 1 : Nat) : Int) := by rw [wrap64 (by omega)]; rfl
        simp (maxSteps := 1000000) (disch := first | decide | omega | (simp only [go_sem]; first | done | omega)) only [go_sem, Int.reduceToNat, Nat.reduceMul, Nat.reduceAdd, Nat.reduceSub, ↓EU_region, ↓EU_draw, g0, g1, g5, h0, h0', h1, h1', hi0, de, hwi]
        exact ⟨_, by omega, i + 1, _, rfl, rfl, by omega, by simp (maxSteps := 1000000) (disch := first | decide | omega | (simp only [go_sem]; first | done | omega)) only [go_sem, Int.reduceToNat, Nat.reduceMul, Nat.reduceAdd, Nat.reduceSub, ↓EU_region, ↓EU_draw, g0], by simp (maxSteps := 1000000) (disch := first | decide | omega | (simp only [go_sem]; first | done | omega)) only [go_sem, Int.reduceToNat, Nat.reduceMul, Nat.reduceAdd, Nat.reduceSub, ↓EU_region, ↓EU_draw, g1], by simp (maxSteps := 1000000) (disch := first | decide | omega | (simp only [go_sem]; first | done | omega)) only [go_sem, Int.reduceToNat, Nat.reduceMul, Nat.reduceAdd, Nat.reduceSub, ↓EU_region, ↓EU_draw]⟩
      · simp (maxSteps := 1000000) (disch := first | decide | omega | (simp only [go_sem]; first | done | omega)) only [go_sem, Int.reduceToNat, Nat.reduceMul, Nat.reduceAdd, Nat.reduceSub, ↓EU_region, ↓EU_draw]
        exact ⟨_, rfl, trivial⟩
    · exact ⟨0, _, rfl, rfl, by omega, by simp (maxSteps := 1000000) (disch := first | decide | omega | (simp only [go_sem]; first | done | omega)) only [go_sem, Int.reduceToNat, Nat.reduceMul, Nat.reduceAdd, Nat.reduceSub, ↓EU_region, ↓EU_draw], by simp (maxSteps := 1000000) (disch := first | decide | omega | (simp only [go_sem]; first | done | omega)) only [go_sem, Int.reduceToNat, Nat.reduceMul, Nat.reduceAdd, Nat.reduceSub, ↓EU_region, ↓EU_draw], by simp (maxSteps := 1000000) (disch := first | decide | omega | (simp only [go_sem]; first | done | omega)) only [go_sem, Int.reduceToNat, Nat.reduceMul, Nat.reduceAdd, Nat.reduceSub, ↓EU_region, ↓EU_draw]; rfl⟩
    · omega
    · rintro ⟨q, _⟩ ⟨tm, rfl, rfl⟩
      simp (maxSteps := 1000000) (disch := first | decide | omega | (simp only [go_sem]; first | done | omega)) only [go_sem, Int.reduceToNat, Nat.reduceMul, Nat.reduceAdd, Nat.reduceSub, ↓EU_region, ↓EU_draw]
  obtain ⟨q, e, rfl⟩ := this
  exact e
end Go.Proofs.YtggidmjgadlolaaDoor.EV
