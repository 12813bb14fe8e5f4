/- Contracts: loads: Clone, may, Least. No condition. -/
import Derived.Test.YtnopeboieicipaaLoad2
namespace Go.Proofs.Ytnopeboieicipaa.EV
open Go Go.Proofs
set_option linter.unusedVariables false
set_option linter.unusedSimpArgs false
set_option maxRecDepth 100000
set_option pp.deepTerms false
set_option pp.deepTerms.threshold 20
theorem tclone_ev (l : List Tk) (s : Value) (h : Heap) (hs : SL tkE 4 h s l) (hl : l.length < 900000) :
    WPo (EF Try.prog O0 18 [s] h) fun q => OW tkE 4 q.2 q.1 l ∧ Fresh h.next q.1 ∧ Ext h q.2 := by
  rw [EF_body (O := O0) (by kernel_rfl) Try.func18 rfl (rs := [.tmp 2]) rfl (bad := []) (by kernel_rfl) _ _ (m := 8) rfl]
  have hs' := hs
  cases hs with
  | nil =>
    simp (maxSteps := 1000000) (disch := first | decide | omega | (simp only [go_sem]; first | done | omega)) only [go_sem, Int.reduceToNat, Nat.reduceMul, Nat.reduceAdd, Nat.reduceSub, ↓EU_region, ↓EU_draw]
    exact ⟨OW.nil, Fresh.nil _ _ _, Ext.refl _⟩
  | mk b o c l cs hb hc hll hx hcap hq =>
    simp (maxSteps := 1000000) (disch := first | decide | omega | (simp only [go_sem]; first | done | omega)) only [go_sem, Int.reduceToNat, Nat.reduceMul, Nat.reduceAdd, Nat.reduceSub, ↓EU_region, ↓EU_draw]
    repeat refine WPo_ob ?_
    refine append_own (e := tkE) (h0 := h) (l := []) (l' := l) fc_ap_34_34 (fun _ => rfl) (by decide) tkE_scal ((Ext.refl h).push _) (OW.lit tkE_len h []) (Fresh.mk _ _ _ (Nat.le_refl _)) (hs'.ext ((Ext.refl h).push _)) (by simp; omega) (by simp; omega) fun v h' ho hf x _ _ => ?_
    simp (maxSteps := 1000000) (disch := first | decide | omega | (simp only [go_sem]; first | done | omega)) only [go_sem, Int.reduceToNat, Nat.reduceMul, Nat.reduceAdd, Nat.reduceSub, ↓EU_region, ↓EU_draw]
    exact ⟨ho, hf, x⟩
theorem lclone_ev (l : List Int) (s : Value) (h : Heap) (hs : SL (intE .i64) 1 h s l) (hl : l.length < 900000) :
    WPo (EF Try.prog O0 19 [s] h) fun q => OW (intE .i64) 1 q.2 q.1 l ∧ Fresh h.next q.1 ∧ Ext h q.2 := by
  rw [EF_body (O := O0) (by kernel_rfl) Try.func19 rfl (rs := [.tmp 2]) rfl (bad := []) (by kernel_rfl) _ _ (m := 8) rfl]
  have hs' := hs
  cases hs with
  | nil =>
    simp (maxSteps := 1000000) (disch := first | decide | omega | (simp only [go_sem]; first | done | omega)) only [go_sem, Int.reduceToNat, Nat.reduceMul, Nat.reduceAdd, Nat.reduceSub, ↓EU_region, ↓EU_draw]
    exact ⟨OW.nil, Fresh.nil _ _ _, Ext.refl _⟩
  | mk b o c l cs hb hc hll hx hcap hq =>
    simp (maxSteps := 1000000) (disch := first | decide | omega | (simp only [go_sem]; first | done | omega)) only [go_sem, Int.reduceToNat, Nat.reduceMul, Nat.reduceAdd, Nat.reduceSub, ↓EU_region, ↓EU_draw]
    repeat refine WPo_ob ?_
    refine append_own (e := intE .i64) (h0 := h) (l := []) (l' := l) fc_ap_28_28 (fun _ => rfl) (by decide) i64_scal ((Ext.refl h).push _) (OW.lit i64_len h []) (Fresh.mk _ _ _ (Nat.le_refl _)) (hs'.ext ((Ext.refl h).push _)) (by simp; omega) (by simp; omega) fun v h' ho hf x _ _ => ?_
    simp (maxSteps := 1000000) (disch := first | decide | omega | (simp only [go_sem]; first | done | omega)) only [go_sem, Int.reduceToNat, Nat.reduceMul, Nat.reduceAdd, Nat.reduceSub, ↓EU_region, ↓EU_draw]
    exact ⟨ho, hf, x⟩
noncomputable def TkOk (n : Nat) (x : Tk) : Prop := 1 ≤ x.w ∧ x.w ≤ 20 ∧ 0 ≤ x.core ∧ x.core < n ∧ x.mask < 65536
/-- what may be -/
theorem may_ev (ld : List Int) (l : List Tk) (v w : Value) (h : Heap) (hs : SL (intE .i64) 1 h v ld) (ht : SL tkE 4 h w l) (hld : ∀ x ∈ ld, 0 ≤ x ∧ x ≤ 1099511627776) (hl : ∀ x ∈ l, TkOk ld.length x) (h1 : ld.length < 900000) (h2 : l.length < 900000) :
    Pu (EF Try.prog O0 16 [v, w] h) h (.bool true) := by
  unfold Pu
  rw [EF_body (O := O0) (by kernel_rfl) Try.func16 rfl (rs := [.tmp 4]) rfl (bad := []) (by kernel_rfl) _ _ (m := 49) rfl]
  obtain ⟨a, c, hv⟩ := hs.val
  subst hv
  obtain ⟨a2, c2, hv⟩ := ht.val
  subst hv
  simp (maxSteps := 1000000) (disch := first | decide | omega | (simp only [go_sem]; first | done | omega)) only [go_sem, Int.reduceToNat, Nat.reduceMul, Nat.reduceAdd, Nat.reduceSub, ↓EU_region, ↓EU_draw]
  repeat refine WPo_ob ?_
  refine (LP_rule (fun m st => ∃ (i : Nat) (tm : Fr), st = ⟨tm, h, []⟩ ∧ m = ld.length - i ∧ i ≤ ld.length ∧ Fr.get tm 0 = .slice a ld.length c ∧ Fr.get tm 1 = .slice a2 l.length c2 ∧ Fr.get tm 9 = .slice a ld.length c ∧ Fr.get tm 10 = .int .i64 ld.length ∧ Fr.get tm 11 = .int .i64 (i : Int))
    (fun q => ∃ (tm : Fr), q.2 = ⟨tm, h, []⟩ ∧ q.1 = .exit 0 ∧ Fr.get tm 0 = .slice a ld.length c ∧ Fr.get tm 1 = .slice a2 l.length c2) ?_ ld.length _ _ ?_ ?_).mono ?_
  · rintro m _ ⟨i, tm, rfl, rfl, hi, g0, g1, g9, g10, g11⟩
    by_cases q : i < ld.length
    · have d1 : decide ((i : Int) < ld.length) = true := decide_eq_true (by omega)
      obtain ⟨x, hx⟩ : ∃ x, ld[i]? = some x := ⟨_, List.getElem?_eq_getElem q⟩
      obtain ⟨b, o, c', e, hb', hrd, hr⟩ := hs.at hx rfl
      cases e
      have hr0 := hr 0 _ rfl
      rw [Nat.add_zero] at hr0
      obtain ⟨x0, x1⟩ := hld x (List.mem_of_getElem? hx)
      have d2 : decide (x < 0) = false := decide_eq_false (by omega)
      have d3 : decide (1099511627776 < x) = false := decide_eq_false (by omega)
      have hwi : wrapF .i64 ((i : Int) + 1) = ((i + 1 : Nat) : Int) := by rw [wrap64 (by omega)]; rfl
      simp (maxSteps := 1000000) (disch := first | decide | omega | (simp only [go_sem]; first | done | omega)) only [go_sem, Int.reduceToNat, Nat.reduceMul, Nat.reduceAdd, Nat.reduceSub, ↓EU_region, ↓EU_draw, g9, g10, g11, d1, hr0, d2, d3, hwi]
      exact ⟨ld.length - (i + 1), by omega, i + 1, _, rfl, rfl, by omega, by simp (maxSteps := 1000000) (disch := first | decide | omega | (simp only [go_sem]; first | done | omega)) only [go_sem, Int.reduceToNat, Nat.reduceMul, Nat.reduceAdd, Nat.reduceSub, ↓EU_region, ↓EU_draw, g0], by simp (maxSteps := 1000000) (disch := first | decide | omega | (simp only [go_sem]; first | done | omega)) only [go_sem, Int.reduceToNat, Nat.reduceMul, Nat.reduceAdd, Nat.reduceSub, ↓EU_region, ↓EU_draw, g1], by simp (maxSteps := 1000000) (disch := first | decide | omega | (simp only [go_sem]; first | done | omega)) only [go_sem, Int.reduceToNat, Nat.reduceMul, Nat.reduceAdd, Nat.reduceSub, ↓EU_region, ↓EU_draw, g9], by simp (maxSteps := 1000000) (disch := first | decide | omega | (simp only [go_sem]; first | done | omega)) only [go_sem, Int.reduceToNat, Nat.reduceMul, Nat.reduceAdd, Nat.reduceSub, ↓EU_region, ↓EU_draw, g10], by simp (maxSteps := 1000000) (disch := first | decide | omega | (simp only [go_sem]; first | done | omega)) only [go_sem, Int.reduceToNat, Nat.reduceMul, Nat.reduceAdd, Nat.reduceSub, ↓EU_region, ↓EU_draw]⟩
    · have d1 : decide ((i : Int) < ld.length) = false := decide_eq_false (by omega)
      simp (maxSteps := 1000000) (disch := first | decide | omega | (simp only [go_sem]; first | done | omega)) only [go_sem, Int.reduceToNat, Nat.reduceMul, Nat.reduceAdd, Nat.reduceSub, ↓EU_region, ↓EU_draw, g10, g11, d1]
      exact ⟨_, rfl, trivial, by simp (maxSteps := 1000000) (disch := first | decide | omega | (simp only [go_sem]; first | done | omega)) only [go_sem, Int.reduceToNat, Nat.reduceMul, Nat.reduceAdd, Nat.reduceSub, ↓EU_region, ↓EU_draw, g0], by simp (maxSteps := 1000000) (disch := first | decide | omega | (simp only [go_sem]; first | done | omega)) only [go_sem, Int.reduceToNat, Nat.reduceMul, Nat.reduceAdd, Nat.reduceSub, ↓EU_region, ↓EU_draw, g1]⟩
  · exact ⟨0, _, rfl, rfl, by omega, by simp (maxSteps := 1000000) (disch := first | decide | omega | (simp only [go_sem]; first | done | omega)) only [go_sem, Int.reduceToNat, Nat.reduceMul, Nat.reduceAdd, Nat.reduceSub, ↓EU_region, ↓EU_draw], by simp (maxSteps := 1000000) (disch := first | decide | omega | (simp only [go_sem]; first | done | omega)) only [go_sem, Int.reduceToNat, Nat.reduceMul, Nat.reduceAdd, Nat.reduceSub, ↓EU_region, ↓EU_draw], by simp (maxSteps := 1000000) (disch := first | decide | omega | (simp only [go_sem]; first | done | omega)) only [go_sem, Int.reduceToNat, Nat.reduceMul, Nat.reduceAdd, Nat.reduceSub, ↓EU_region, ↓EU_draw], by simp (maxSteps := 1000000) (disch := first | decide | omega | (simp only [go_sem]; first | done | omega)) only [go_sem, Int.reduceToNat, Nat.reduceMul, Nat.reduceAdd, Nat.reduceSub, ↓EU_region, ↓EU_draw], by simp (maxSteps := 1000000) (disch := first | decide | omega | (simp only [go_sem]; first | done | omega)) only [go_sem, Int.reduceToNat, Nat.reduceMul, Nat.reduceAdd, Nat.reduceSub, ↓EU_region, ↓EU_draw]; rfl⟩
  · omega
  · rintro ⟨_, _⟩ ⟨tm, rfl, rfl, g0, g1⟩
    simp (maxSteps := 1000000) (disch := first | decide | omega | (simp only [go_sem]; first | done | omega)) only [go_sem, Int.reduceToNat, Nat.reduceMul, Nat.reduceAdd, Nat.reduceSub, ↓EU_region, ↓EU_draw, g1]
    repeat refine WPo_ob ?_
    refine (LP_rule (fun m st => ∃ (i : Nat) (tm : Fr) (h' : Heap), st = ⟨tm, h', []⟩ ∧ m = l.length - i ∧ i ≤ l.length ∧ Fr.get tm 0 = .slice a ld.length c ∧ Fr.get tm 22 = .slice a2 l.length c2 ∧ Fr.get tm 23 = .int .i64 l.length ∧ Fr.get tm 24 = .int .i64 (i : Int) ∧ Ext h h')
      (fun q => ∃ (tm : Fr) (h' : Heap), q.2 = ⟨tm, h', []⟩ ∧ q.1 = .exit 2 ∧ Ext h h') ?_ l.length _ _ ?_ ?_).mono ?_
    · rintro m _ ⟨i, tm, h', rfl, rfl, hi, g0, g22, g23, g24, xx⟩
      by_cases q : i < l.length
      · have d1 : decide ((i : Int) < l.length) = true := decide_eq_true (by omega)
        obtain ⟨x, hx⟩ : ∃ x, l[i]? = some x := ⟨_, List.getElem?_eq_getElem q⟩
        obtain ⟨b, o, c', e, hb', hrd, hr⟩ := (ht.ext xx).at hx rfl
        cases e
        obtain ⟨x0, x1, x2, x3, _⟩ := hl x (List.mem_of_getElem? hx)
        have d2 : decide (x.w < 1) = false := decide_eq_false (by omega)
        have d3 : decide (20 < x.w) = false := decide_eq_false (by omega)
        have d4 : decide (x.core < 0) = false := decide_eq_false (by omega)
        have d5 : decide ((ld.length : Int) ≤ x.core) = false := decide_eq_false (by omega)
        have hwi : wrapF .i64 ((i : Int) + 1) = ((i + 1 : Nat) : Int) := by rw [wrap64 (by omega)]; rfl
        simp (maxSteps := 1000000) (disch := first | decide | omega | (simp only [go_sem]; first | done | omega)) only [go_sem, Int.reduceToNat, Nat.reduceMul, Nat.reduceAdd, Nat.reduceSub, ↓EU_region, ↓EU_draw, g0, g22, g23, g24, d1, hrd, tkE, d2, d3, d4, d5, hwi]
        exact ⟨l.length - (i + 1), by omega, i + 1, _, _, rfl, rfl, by omega, by simp (maxSteps := 1000000) (disch := first | decide | omega | (simp only [go_sem]; first | done | omega)) only [go_sem, Int.reduceToNat, Nat.reduceMul, Nat.reduceAdd, Nat.reduceSub, ↓EU_region, ↓EU_draw, g0], by simp (maxSteps := 1000000) (disch := first | decide | omega | (simp only [go_sem]; first | done | omega)) only [go_sem, Int.reduceToNat, Nat.reduceMul, Nat.reduceAdd, Nat.reduceSub, ↓EU_region, ↓EU_draw, g22], by simp (maxSteps := 1000000) (disch := first | decide | omega | (simp only [go_sem]; first | done | omega)) only [go_sem, Int.reduceToNat, Nat.reduceMul, Nat.reduceAdd, Nat.reduceSub, ↓EU_region, ↓EU_draw, g23], by simp (maxSteps := 1000000) (disch := first | decide | omega | (simp only [go_sem]; first | done | omega)) only [go_sem, Int.reduceToNat, Nat.reduceMul, Nat.reduceAdd, Nat.reduceSub, ↓EU_region, ↓EU_draw], xx.push _⟩
      · have d1 : decide ((i : Int) < l.length) = false := decide_eq_false (by omega)
        simp (maxSteps := 1000000) (disch := first | decide | omega | (simp only [go_sem]; first | done | omega)) only [go_sem, Int.reduceToNat, Nat.reduceMul, Nat.reduceAdd, Nat.reduceSub, ↓EU_region, ↓EU_draw, g23, g24, d1]
        exact ⟨_, h', rfl, trivial, xx⟩
    · exact ⟨0, _, h, rfl, rfl, by omega, by simp (maxSteps := 1000000) (disch := first | decide | omega | (simp only [go_sem]; first | done | omega)) only [go_sem, Int.reduceToNat, Nat.reduceMul, Nat.reduceAdd, Nat.reduceSub, ↓EU_region, ↓EU_draw, g0], by simp (maxSteps := 1000000) (disch := first | decide | omega | (simp only [go_sem]; first | done | omega)) only [go_sem, Int.reduceToNat, Nat.reduceMul, Nat.reduceAdd, Nat.reduceSub, ↓EU_region, ↓EU_draw], by simp (maxSteps := 1000000) (disch := first | decide | omega | (simp only [go_sem]; first | done | omega)) only [go_sem, Int.reduceToNat, Nat.reduceMul, Nat.reduceAdd, Nat.reduceSub, ↓EU_region, ↓EU_draw], by simp (maxSteps := 1000000) (disch := first | decide | omega | (simp only [go_sem]; first | done | omega)) only [go_sem, Int.reduceToNat, Nat.reduceMul, Nat.reduceAdd, Nat.reduceSub, ↓EU_region, ↓EU_draw]; rfl, Ext.refl _⟩
    · omega
    · rintro ⟨_, _⟩ ⟨tm, h', rfl, rfl, xx⟩
      simp (maxSteps := 1000000) (disch := first | decide | omega | (simp only [go_sem]; first | done | omega)) only [go_sem, Int.reduceToNat, Nat.reduceMul, Nat.reduceAdd, Nat.reduceSub, ↓EU_region, ↓EU_draw]
      exact ⟨trivial, xx⟩
/-- where least is, of the first cores -/
noncomputable def lstN (ld : List Int) (M : Nat) : Nat → Option Nat
  | 0 => none
  | k + 1 => if hasN M k = true ∧ k < ld.length ∧ (∀ b, lstN ld M k = some b → ld.getD k 0 < ld.getD b 0) then some k else lstN ld M k
theorem lstN_lt (ld : List Int) (M : Nat) : ∀ k b, lstN ld M k = some b → b < k ∧ b < ld.length ∧ hasN M b = true
  | k + 1, b, h => by
    unfold lstN at h
    split at h
    · cases h
      rename_i q
      exact ⟨by omega, q.2.1, q.1⟩
    · have := lstN_lt ld M k b h
      exact ⟨by omega, this.2⟩
theorem lst_skip (ld : List Int) (M k : Nat) (h : hasN M k = false) : lstN ld M (k + 1) = lstN ld M k := by
  show (if _ then _ else _) = _
  rw [if_neg fun q => by rw [h] at q; cases q.1]
noncomputable def stR (p : Option Code) : LoopState := match p with
  | none => .ready
  | some _ => .done
theorem stR_b (p : Option Code) : isBusy (stR p) = false := by cases p <;> rfl
theorem setP1 (n : Nat) (t : Tmp) (v : Value) (tm : Fr) : setParams n ([t].zip [v]) tm = Fr.put n tm t v := rfl
theorem Mod.old' {S : Nat → Prop} {a b : Heap} (m : Mod S a b) {i : Nat} (hi : i < a.next) (hs : ¬ S i) : b.get i = a.get i := m.old i hi hs
noncomputable def lb (o : Option Nat) : Int := match o with | some b => (b : Int) | none => 0
set_option maxHeartbeats 4000000 in
theorem least_ev (ld : List Int) (M : Nat) (hM : M < 65536) (v : Value) (h : Heap) (hs : SL (intE .i64) 1 h v ld) (hl : ld.length < 900000) :
    Pu (EF Try.prog O0 7 [v, .int .u16 (M : Int)] h) h (.tuple ⟨[.int .i64 (lb (lstN ld M 16)), .bool (lstN ld M 16).isSome]⟩) := by
  unfold Pu
  rw [EF_body (O := O0) (by kernel_rfl) Try.func7 rfl (rs := [.tmp 4, .tmp 5]) rfl (bad := []) (by kernel_rfl) _ _ (m := 34) rfl]
  obtain ⟨a, c, hv⟩ := hs.val
  subst hv
  simp (maxSteps := 1000000) (disch := first | decide | omega | (simp only [go_sem]; first | done | omega)) only [go_sem, Int.reduceToNat, Nat.reduceMul, Nat.reduceAdd, Nat.reduceSub, ↓EU_region, ↓EU_draw]
  repeat refine WPo_ob ?_
  rw [all_ev]
  simp (maxSteps := 1000000) (disch := first | decide | omega | (simp only [go_sem]; first | done | omega)) only [go_sem, Int.reduceToNat, Nat.reduceMul, Nat.reduceAdd, Nat.reduceSub, ↓EU_region, ↓EU_draw]
  generalize hg : ((((((h.push (.cells [.slice a ld.length c] 0)).push (.cells [.int .i64 0] 0)).push (.cells [.bool false] 0)).set (h.next + 1) (.cells [.int .i64 0] 0)).set (h.next + 1 + 1) (.cells [.bool false] 0)).push (.cells [.int .u16 (M : Int)] 0)) = h1
  have x1 : Ext h h1 := by rw [← hg]; repeat (first | exact Ext.refl _ | assumption | refine Ext.push ?_ _ | refine Ext.set ?_ _ _ (by first | omega | (simp only [next_push, next_set]; omega)))
  have c0 : h1.get h.next = .cells [.slice a ld.length c] 0 := by rw [← hg]; simp (maxSteps := 1000000) (disch := first | decide | omega | (simp only [go_sem]; first | done | omega)) only [go_sem, Int.reduceToNat, Nat.reduceMul, Nat.reduceAdd, Nat.reduceSub, ↓EU_region, ↓EU_draw]
  have c1 : h1.get (h.next + 1) = .cells [.int .i64 0] 0 := by rw [← hg]; simp (maxSteps := 1000000) (disch := first | decide | omega | (simp only [go_sem]; first | done | omega)) only [go_sem, Int.reduceToNat, Nat.reduceMul, Nat.reduceAdd, Nat.reduceSub, ↓EU_region, ↓EU_draw]
  have c2 : h1.get (h.next + 1 + 1) = .cells [.bool false] 0 := by rw [← hg]; simp (maxSteps := 1000000) (disch := first | decide | omega | (simp only [go_sem]; first | done | omega)) only [go_sem, Int.reduceToNat, Nat.reduceMul, Nat.reduceAdd, Nat.reduceSub, ↓EU_region, ↓EU_draw]
  have c3 : h1.get (h.next + 1 + 1 + 1) = .cells [.int .u16 (M : Int)] 0 := by rw [← hg]; simp (maxSteps := 1000000) (disch := first | decide | omega | (simp only [go_sem]; first | done | omega)) only [go_sem, Int.reduceToNat, Nat.reduceMul, Nat.reduceAdd, Nat.reduceSub, ↓EU_region, ↓EU_draw]
  have hn1 : h1.next = h.next + 1 + 1 + 1 + 1 := by rw [← hg]; simp (maxSteps := 1000000) (disch := first | decide | omega | (simp only [go_sem]; first | done | omega)) only [go_sem, Int.reduceToNat, Nat.reduceMul, Nat.reduceAdd, Nat.reduceSub, ↓EU_region, ↓EU_draw]
  clear hg
  repeat refine WPo_ob ?_
  refine range_rule' stR (fun p h' => p = none ∧ h'.get (h.next + 1) = .cells [.int .i64 (lb (lstN ld M 16))] 0 ∧ h'.get (h.next + 1 + 1) = .cells [.bool (lstN ld M 16).isSome] 0 ∧ h'.get h1.next = .defd ∧ h1.next < h'.next ∧ Ext h h') stR_b ?_ ?_ ?_
  · intro LB hLB
    have g0 : ((h1.push .defd).push (LB .ready none)).get h.next = .cells [.slice a ld.length c] 0 := by rw [get_push_old _ (by rw [next_push]; omega), get_push_old _ (by omega)]; exact c0
    have g1 : ((h1.push .defd).push (LB .ready none)).get (h.next + 1) = .cells [.int .i64 0] 0 := by rw [get_push_old _ (by rw [next_push]; omega), get_push_old _ (by omega)]; exact c1
    have g2 : ((h1.push .defd).push (LB .ready none)).get (h.next + 1 + 1) = .cells [.bool false] 0 := by rw [get_push_old _ (by rw [next_push]; omega), get_push_old _ (by omega)]; exact c2
    have g3 : ((h1.push .defd).push (LB .ready none)).get (h.next + 1 + 1 + 1) = .cells [.int .u16 (M : Int)] 0 := by rw [get_push_old _ (by rw [next_push]; omega), get_push_old _ (by omega)]; exact c3
    have g4 : ((h1.push .defd).push (LB .ready none)).get h1.next = .defd := by rw [get_push_old _ (by rw [next_push]; omega)]; exact get_push_new _ _
    have g5 : ((h1.push .defd).push (LB .ready none)).get (h1.next + 1) = LB .ready none := by rw [← next_push h1 .defd]; exact get_push_new _ _
    have gx : Ext h1 ((h1.push .defd).push (LB .ready none)) := ((Ext.refl h1).push _).push _
    have gn : ((h1.push .defd).push (LB .ready none)).next = h1.next + 2 := by rw [next_push, next_push]
    generalize (h1.push .defd).push (LB .ready none) = hb at *
    refine (all1_ev M hM (h.next + 1 + 1 + 1) (yieldV (h1.next + 1)) (fun i h' => Mod (fun j => j = h.next + 1 ∨ j = h.next + 1 + 1 ∨ j = h1.next + 1) hb h' ∧ h'.get (h.next + 1) = .cells [.int .i64 (lb (lstN ld M i))] 0 ∧ h'.get (h.next + 1 + 1) = .cells [.bool (lstN ld M i).isSome] 0 ∧ h'.get (h1.next + 1) = LB .ready none) (fun _ => False) hb ?_ ⟨Mod.refl _ _, g1, g2, g5⟩ ?_ ?_).mono ?_
    · rintro i h' ⟨m, k1, k2, k3⟩
      rw [m.old' (by omega) (by omega)]; exact g3
    · rintro i h' hi hb' k
      rw [lst_skip ld M i hb']; exact k
    · rintro i h' hi hb' ⟨m, k1, k2, k3⟩
      have hm := m.le
      refine round_rule' hLB k3 rfl (tm1 := _) (by rw [setP1, EC_EU (bad := []) (by kernel_rfl)]; simp (maxSteps := 1000000) (disch := first | decide | omega | (simp only [go_sem]; first | done | omega)) only [go_sem, Int.reduceToNat, Nat.reduceMul, Nat.reduceAdd, Nat.reduceSub, ↓EU_region, ↓EU_draw]; rfl) ?_
      rw [EC_EU (bad := []) (by kernel_rfl)]
      have k0' : (h'.set (h1.next + 1) (LB .busy none)).get h.next = .cells [.slice a ld.length c] 0 := by rw [get_set_ne _ (by omega), m.old' (by omega) (by omega)]; exact g0
      have k1' : (h'.set (h1.next + 1) (LB .busy none)).get (h.next + 1) = .cells [.int .i64 (lb (lstN ld M i))] 0 := by rw [get_set_ne _ (by omega)]; exact k1
      have k2' : (h'.set (h1.next + 1) (LB .busy none)).get (h.next + 1 + 1) = .cells [.bool (lstN ld M i).isSome] 0 := by rw [get_set_ne _ (by omega)]; exact k2
      have k3' : (h'.set (h1.next + 1) (LB .busy none)).get (h1.next + 1) = LB .busy none := get_set_same _ _ _
      have m' : Mod (fun j => j = h.next + 1 ∨ j = h.next + 1 + 1 ∨ j = h1.next + 1) hb (h'.set (h1.next + 1) (LB .busy none)) := m.set _ _ (fun _ => .inr (.inr rfl))
      have hn' : (h'.set (h1.next + 1) (LB .busy none)).next = h'.next := next_set _ _ _
      have xh : Ext h (h'.set (h1.next + 1) (LB .busy none)) := Mod.ext (((x1.trans gx).mod (fun _ => False)).drop (m'.mono fun j _ q => .inr (by omega)))
      generalize h'.set (h1.next + 1) (LB .busy none) = h2 at *
      have hs1 : lstN ld M (i + 1) = if hasN M i = true ∧ i < ld.length ∧ (∀ b, lstN ld M i = some b → ld.getD i 0 < ld.getD b 0) then some i else lstN ld M i := rfl
      by_cases q : i < ld.length
      · have d1 : decide ((i : Int) < ld.length) = true := decide_eq_true (by omega)
        obtain ⟨b, o, cc, e, _, hr⟩ := (hs.ext xh).acc (by omega)
        cases e
        obtain ⟨x, hx⟩ : ∃ x, ld[i]? = some x := ⟨_, List.getElem?_eq_getElem q⟩
        have hri := hr h2 (Ext.refl _) i _ hx
        cases ho : lstN ld M i with
        | none =>
          rw [ho] at hs1 k1' k2'
          rw [if_pos ⟨hb', q, fun b e => by cases e⟩] at hs1
          unfold Option.isSome at k2'
          simp (maxSteps := 1000000) (disch := first | decide | omega | (simp only [go_sem]; first | done | omega)) only [go_sem, Int.reduceToNat, Nat.reduceMul, Nat.reduceAdd, Nat.reduceSub, ↓EU_region, ↓EU_draw, k0', k1', k2', d1]
          rw [hs1]
          exact ⟨k3', .inl ⟨trivial, .inl ⟨trivial, ((m'.set _ _ (fun _ => .inl rfl)).set _ _ (fun _ => .inr (.inl rfl))).set _ _ (fun _ => .inr (.inr rfl)), rfl, rfl, trivial⟩⟩⟩
        | some b' =>
          rw [ho] at hs1 k1' k2'
          obtain ⟨_, q2, _⟩ := lstN_lt ld M i b' ho
          obtain ⟨y, hy⟩ : ∃ x, ld[b']? = some x := ⟨_, List.getElem?_eq_getElem q2⟩
          have hry := hr h2 (Ext.refl _) b' _ hy
          unfold Option.isSome at k2'
          unfold lb at k1'
          by_cases q3 : x < y
          · have d3 : decide (x < y) = true := decide_eq_true q3
            rw [if_pos ⟨hb', q, fun b e => by cases e; rw [getD_of hx, getD_of hy]; exact q3⟩] at hs1
            simp (maxSteps := 1000000) (disch := first | decide | omega | (simp only [go_sem]; first | done | omega)) only [go_sem, Int.reduceToNat, Nat.reduceMul, Nat.reduceAdd, Nat.reduceSub, ↓EU_region, ↓EU_draw, k0', k1', k2', d1, hri, hry, d3]
            rw [hs1]
            exact ⟨k3', .inl ⟨trivial, .inl ⟨trivial, ((m'.set _ _ (fun _ => .inl rfl)).set _ _ (fun _ => .inr (.inl rfl))).set _ _ (fun _ => .inr (.inr rfl)), rfl, rfl, trivial⟩⟩⟩
          · have d3 : decide (x < y) = false := decide_eq_false q3
            rw [if_neg fun h => q3 (by have := h.2.2 b' rfl; rwa [getD_of hx, getD_of hy] at this)] at hs1
            simp (maxSteps := 1000000) (disch := first | decide | omega | (simp only [go_sem]; first | done | omega)) only [go_sem, Int.reduceToNat, Nat.reduceMul, Nat.reduceAdd, Nat.reduceSub, ↓EU_region, ↓EU_draw, k0', k1', k2', d1, hri, hry, d3]
            rw [hs1]
            exact ⟨k3', .inl ⟨trivial, .inl ⟨trivial, m'.set _ _ (fun _ => .inr (.inr rfl)), rfl, rfl, trivial⟩⟩⟩
      · have d1 : decide ((i : Int) < ld.length) = false := decide_eq_false (by omega)
        rw [if_neg fun h => q h.2.1] at hs1
        simp (maxSteps := 1000000) (disch := first | decide | omega | (simp only [go_sem]; first | done | omega)) only [go_sem, Int.reduceToNat, Nat.reduceMul, Nat.reduceAdd, Nat.reduceSub, ↓EU_region, ↓EU_draw, k0', k1', k2', d1]
        rw [hs1]
        exact ⟨k3', .inl ⟨trivial, .inl ⟨trivial, m'.set _ _ (fun _ => .inr (.inr rfl)), rfl, rfl, trivial⟩⟩⟩
    · rintro ⟨v, h'⟩ (⟨m, k1, k2, k3⟩ | k)
      · have hm := m.le
        simp only at k3
        refine ⟨none, k3, rfl, by rw [get_set_ne _ (by omega)]; exact k1, by rw [get_set_ne _ (by omega)]; exact k2, ?_, by rw [next_set]; omega, ?_⟩
        · rw [get_set_ne _ (by omega), m.old' (by omega) (by omega)]; exact g4
        · refine Mod.ext ?_
          have e1 : Ext h hb := x1.trans gx
          exact (e1.mod (fun _ => False)).drop ((m.set _ _ (fun _ => .inr (.inr rfl))).mono fun i _ q => .inr (by omega))
      · exact k.elim
  · rintro h' ⟨_, k1, k2, k3, hn, xx⟩
    have k3' : (h'.set h1.next .dead).next = h'.next := next_set _ _ _
    simp (maxSteps := 1000000) (disch := first | decide | omega | (simp only [go_sem]; first | done | omega)) only [go_sem, Int.reduceToNat, Nat.reduceMul, Nat.reduceAdd, Nat.reduceSub, ↓EU_region, ↓EU_draw, k1, k2]
    rw [leaveK_dr _ _ _ _ _ k3]
    simp (maxSteps := 1000000) (disch := first | decide | omega | (simp only [go_sem]; first | done | omega)) only [go_sem, Int.reduceToNat, Nat.reduceMul, Nat.reduceAdd, Nat.reduceSub, ↓EU_region, ↓EU_draw]
    exact ⟨trivial, xx.set h1.next _ (by omega)⟩
  · rintro c h' ⟨q, _⟩
    cases q
end Go.Proofs.Ytnopeboieicipaa.EV
