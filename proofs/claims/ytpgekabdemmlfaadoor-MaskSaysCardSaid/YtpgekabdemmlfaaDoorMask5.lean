/- Contracts: masks by the reference: Cores, MaskOf, MaskText, GoodMask; mask.Good. No condition. -/
import Derived.Test.YtpgekabdemmlfaaDoorMask4
import Derived.Test.YtpgekabdemmlfaaDoorMask2
namespace Go.Proofs.YtpgekabdemmlfaaDoor.EV
open Go Go.Proofs
set_option linter.unusedVariables false
set_option linter.unusedSimpArgs false
set_option maxRecDepth 100000
set_option pp.deepTerms false
set_option pp.deepTerms.threshold 20
theorem u64_nat {n : Nat} (h : n < 18446744073709551616) : wrapF .u64 (n : Int) = n := wrapF_nat rfl h
theorem rcores_ev (M : Nat) (hM : M < 65536) (h : Heap) :
    WPo (EF Tryd.prog O0 16 [.int .u16 (M : Int)] h) fun q => OW (intE .i64) 1 q.2 q.1 (coresI M 16) ∧ Fresh h.next q.1 ∧ Ext h q.2 := by
  rw [EF_body (O := O0) (by kernel_rfl) Tryd.func16 rfl (rs := [.tmp 2]) rfl (bad := []) (by kernel_rfl) _ _ (m := 20) rfl]
  simp (maxSteps := 1000000) (disch := first | decide | omega | (simp only [go_sem]; first | done | omega)) only [go_sem, Int.reduceToNat, Nat.reduceMul, Nat.reduceAdd, Nat.reduceSub, ↓EU_region, ↓EU_draw]
  repeat refine WPo_ob ?_
  refine (LP_rule (fun m st => ∃ (i : Nat) (tm : Fr) (h' : Heap) (v : Value), st = ⟨tm, h', []⟩ ∧ m = 16 - i ∧ i ≤ 16 ∧ Fr.get tm 0 = .int .u16 (M : Int) ∧ Fr.get tm 3 = v ∧ Fr.get tm 4 = .int .i64 (i : Int) ∧ OW (intE .i64) 1 h' v (coresI M i) ∧ Fresh h.next v ∧ Ext h h')
    (fun q => ∃ tm h' v, q.2 = ⟨tm, h', []⟩ ∧ q.1 = .exit 0 ∧ Fr.get tm 3 = v ∧ OW (intE .i64) 1 h' v (coresI M 16) ∧ Fresh h.next v ∧ Ext h h') ?_ 16 _ _ ?_ ?_).mono ?_
  · rintro m _ ⟨i, tm, h', v, rfl, rfl, hi, g0, g3, g4, ov, fv, xx⟩
    by_cases q : i < 16
    · have d : decide ((i : Int) < 16) = true := decide_eq_true (by omega)
      have hwi : wrapF .i64 ((i : Int) + 1) = ((i + 1 : Nat) : Int) := by rw [wrap64 (by omega)]; rfl
      have hwu : wrapF .u64 (i : Int) = (i : Int) := u64_nat (by omega)
      have e1 : ∀ (P : Program) (t : TypeId) (x y : Operand), evBin P .shr t x y (.int .u16 (M : Int)) (.int .u64 (i : Int)) = some (.int .u16 ((M >>> i : Nat) : Int)) := fun P t x y => bin_shrN P t x y (by show i ≤ 16; omega)
      have e2 : ∀ (P : Program) (t : TypeId) (x y : Operand), evBin P .and t x y (.int .u16 ((M >>> i : Nat) : Int)) (.int .u16 1) = some (.int .u16 (((M >>> i) &&& 1 : Nat) : Int)) := fun P t x y => bin_andN P t x y (m := 1) rfl (Nat.lt_of_le_of_lt (Nat.shiftRight_le M i) hM) (by decide)
      have hb' := has_bit M i
      cases hb : hasN M i with
      | false =>
        rw [hb] at hb'
        rw [← coresI_f hb] at ov
        simp (maxSteps := 1000000) (disch := first | decide | omega | (simp only [go_sem]; first | done | omega)) only [go_sem, Int.reduceToNat, Nat.reduceMul, Nat.reduceAdd, Nat.reduceSub, ↓EU_region, ↓EU_draw, g0, g3, g4, d, hwi, hwu, e1, e2, hb']
        exact ⟨16 - (i + 1), by omega, i + 1, _, h', v, rfl, rfl, by omega, by simp (maxSteps := 1000000) (disch := first | decide | omega | (simp only [go_sem]; first | done | omega)) only [go_sem, Int.reduceToNat, Nat.reduceMul, Nat.reduceAdd, Nat.reduceSub, ↓EU_region, ↓EU_draw, g0], by simp (maxSteps := 1000000) (disch := first | decide | omega | (simp only [go_sem]; first | done | omega)) only [go_sem, Int.reduceToNat, Nat.reduceMul, Nat.reduceAdd, Nat.reduceSub, ↓EU_region, ↓EU_draw, g3], by simp (maxSteps := 1000000) (disch := first | decide | omega | (simp only [go_sem]; first | done | omega)) only [go_sem, Int.reduceToNat, Nat.reduceMul, Nat.reduceAdd, Nat.reduceSub, ↓EU_region, ↓EU_draw], ov, fv, xx⟩
      | true =>
        rw [hb] at hb'
        have hnx := coresI_t hb
        have hlt := coresI_len M i
        obtain ⟨va, vc, rfl⟩ := ov.val
        simp (maxSteps := 1000000) (disch := first | decide | omega | (simp only [go_sem]; first | done | omega)) only [go_sem, Int.reduceToNat, Nat.reduceMul, Nat.reduceAdd, Nat.reduceSub, ↓EU_region, ↓EU_draw, g0, g3, g4, d, hwi, hwu, e1, e2, hb']
        repeat refine WPo_ob ?_
        refine append_gr (e := intE .i64) (l := coresI M i) (l' := [(i : Int)]) fc_ap_27_27 i64_len (by decide) i64_scal (ov.ext ((Ext.refl h').push _)) (OW.lit i64_len h' [(i : Int)]).sl (by simp only [List.length_cons, List.length_nil]; omega) (by simp only [List.length_cons, List.length_nil]; omega) fun v3 h3 o3 gr => ?_
        rw [← hnx] at o3
        have hle := xx.le
        have f3 : Fresh h.next v3 := fun j hj => by
          rcases gr.src j hj with q | q
          · exact fv j q
          · rw [next_push] at q; omega
        have x3 : Ext h h3 := gr.ext0 (xx.push _) fv
        simp (maxSteps := 1000000) (disch := first | decide | omega | (simp only [go_sem]; first | done | omega)) only [go_sem, Int.reduceToNat, Nat.reduceMul, Nat.reduceAdd, Nat.reduceSub, ↓EU_region, ↓EU_draw, g0, g3, g4, hwi]
        exact ⟨16 - (i + 1), by omega, i + 1, _, h3, v3, rfl, rfl, by omega, by simp (maxSteps := 1000000) (disch := first | decide | omega | (simp only [go_sem]; first | done | omega)) only [go_sem, Int.reduceToNat, Nat.reduceMul, Nat.reduceAdd, Nat.reduceSub, ↓EU_region, ↓EU_draw, g0], by simp (maxSteps := 1000000) (disch := first | decide | omega | (simp only [go_sem]; first | done | omega)) only [go_sem, Int.reduceToNat, Nat.reduceMul, Nat.reduceAdd, Nat.reduceSub, ↓EU_region, ↓EU_draw], by simp (maxSteps := 1000000) (disch := first | decide | omega | (simp only [go_sem]; first | done | omega)) only [go_sem, Int.reduceToNat, Nat.reduceMul, Nat.reduceAdd, Nat.reduceSub, ↓EU_region, ↓EU_draw], o3, f3, x3⟩
    · have d : decide ((i : Int) < 16) = false := decide_eq_false (by omega)
      obtain rfl : i = 16 := by omega
      simp (maxSteps := 1000000) (disch := first | decide | omega | (simp only [go_sem]; first | done | omega)) only [go_sem, Int.reduceToNat, Nat.reduceMul, Nat.reduceAdd, Nat.reduceSub, ↓EU_region, ↓EU_draw, g4, d]
      exact ⟨_, h', v, rfl, trivial, by simp (maxSteps := 1000000) (disch := first | decide | omega | (simp only [go_sem]; first | done | omega)) only [go_sem, Int.reduceToNat, Nat.reduceMul, Nat.reduceAdd, Nat.reduceSub, ↓EU_region, ↓EU_draw, g3], ov, fv, xx⟩
  · exact ⟨0, _, h, _, rfl, rfl, by omega, by simp (maxSteps := 1000000) (disch := first | decide | omega | (simp only [go_sem]; first | done | omega)) only [go_sem, Int.reduceToNat, Nat.reduceMul, Nat.reduceAdd, Nat.reduceSub, ↓EU_region, ↓EU_draw], rfl, by simp (maxSteps := 1000000) (disch := first | decide | omega | (simp only [go_sem]; first | done | omega)) only [go_sem, Int.reduceToNat, Nat.reduceMul, Nat.reduceAdd, Nat.reduceSub, ↓EU_region, ↓EU_draw]; rfl, by simp (maxSteps := 1000000) (disch := first | decide | omega | (simp only [go_sem]; first | done | omega)) only [go_sem, Int.reduceToNat, Nat.reduceMul, Nat.reduceAdd, Nat.reduceSub, ↓EU_region, ↓EU_draw]; exact OW.nil, by simp (maxSteps := 1000000) (disch := first | decide | omega | (simp only [go_sem]; first | done | omega)) only [go_sem, Int.reduceToNat, Nat.reduceMul, Nat.reduceAdd, Nat.reduceSub, ↓EU_region, ↓EU_draw]; exact Fresh.nil _ _ _, Ext.refl h⟩
  · omega
  · rintro ⟨_, _⟩ ⟨tm, h', v, rfl, rfl, g3, ov, fv, xx⟩
    simp (maxSteps := 1000000) (disch := first | decide | omega | (simp only [go_sem]; first | done | omega)) only [go_sem, Int.reduceToNat, Nat.reduceMul, Nat.reduceAdd, Nat.reduceSub, ↓EU_region, ↓EU_draw, g3]
    exact ⟨ov, fv, xx⟩
theorem rmask_ev (l : List Int) (s : Value) (h : Heap) (hs : SL (intE .i64) 1 h s l) (hl : l.length < 900000) :
    EF Tryd.prog O0 17 [s] h = some (.int .u16 (ofN l : Int), h) := by
  have : WPo (EF Tryd.prog O0 17 [s] h) fun q => q = (.int .u16 (ofN l : Int), h) := by
    rw [EF_body (O := O0) (by kernel_rfl) Tryd.func17 rfl (rs := [.tmp 2]) rfl (bad := []) (by kernel_rfl) _ _ (m := 32) rfl]
    obtain ⟨a, c, hv⟩ := hs.val
    subst hv
    simp (maxSteps := 1000000) (disch := first | decide | omega | (simp only [go_sem]; first | done | omega)) only [go_sem, Int.reduceToNat, Nat.reduceMul, Nat.reduceAdd, Nat.reduceSub, ↓EU_region, ↓EU_draw]
    repeat refine WPo_ob ?_
    refine (LP_rule (fun m st => ∃ (i : Nat) (tm : Fr) (M : Nat), st = ⟨tm, h, []⟩ ∧ m = l.length - i ∧ i ≤ l.length ∧ Fr.get tm 3 = .int .u16 (M : Int) ∧ M < 65536 ∧ Fr.get tm 0 = .slice a l.length c ∧ Fr.get tm 4 = .int .i64 i ∧ M = (l.take i).foldl ofStep 0)
      (fun q => ∃ tm, q.2 = ⟨tm, h, []⟩ ∧ q.1 = .exit 0 ∧ Fr.get tm 3 = .int .u16 (ofN l : Int)) ?_ l.length _ _ ?_ ?_).mono ?_
    · rintro m _ ⟨i, tm, M, rfl, rfl, hi, g3, hM, g6, g8, hf⟩
      simp (maxSteps := 1000000) (disch := first | decide | omega | (simp only [go_sem]; first | done | omega)) only [go_sem, Int.reduceToNat, Nat.reduceMul, Nat.reduceAdd, Nat.reduceSub, ↓EU_region, ↓EU_draw, g6, g8]
      ((repeat refine WPo_ob ?_); (first | refine WPo_cond (fun b1 => ?_) (fun b1 => ?_) | refine WPo_gard (fun b1 => ?_) (fun b1 => ?_) | refine WPo_gardT (fun b1 => ?_) (fun b1 => ?_)) <;> (try simp only [Bool.not_eq_true', Bool.not_eq_false'] at b1))
      · have b1' := b1
        simp only [decide_eq_true_eq] at b1'
        have hi' : i < l.length := by omega
        obtain ⟨x, hx⟩ : ∃ x, l[i]? = some x := ⟨_, List.getElem?_eq_getElem hi'⟩
        obtain ⟨b, o, c', e, hb', hrd, hr⟩ := hs.at hx rfl
        cases e
        have hr0 := hr 0 _ rfl
        rw [add_z] at hr0
        have hwi : wrapF .i64 ((i : Int) + 1) = ((i + 1 : Nat) : Int) := by rw [wrap64 (by omega)]; rfl
        have hst : (l.take (i + 1)).foldl ofStep 0 = ofStep M x := by rw [List.take_add_one, hx, List.foldl_append, ← hf]; rfl
        by_cases q0 : 0 ≤ x
        · have d0 : decide (x ≥ 0) = true := decide_eq_true q0
          by_cases q1 : x < 16
          · have d1 : decide (x < 16) = true := decide_eq_true q1
            obtain ⟨n, rfl⟩ := Int.eq_ofNat_of_zero_le q0
            have hp : 2 ^ n < 65536 := by
              have : 2 ^ n < 2 ^ 16 := Nat.pow_lt_pow_right (by decide) (by omega)
              exact this
            have hwu : wrapF .u64 (n : Int) = (n : Int) := u64_nat (by omega)
            have e1 : ∀ (P : Program) (t : TypeId) (y z : Operand), evBin P .shl t y z (.int .u16 1) (.int .u64 (n : Int)) = some (.int .u16 ((2 ^ n : Nat) : Int)) := fun P t y z => by
              rw [bin_shl64 P t y z ⟨by omega, by show (n : Int) ≤ (16 : Nat); omega⟩, toNat_nat]
              have : (1 : Int) * 2 ^ n = ((2 ^ n : Nat) : Int) := by rw [Int.one_mul]; norm_cast
              rw [this, wrapF_nat rfl hp]
            have e2 : ∀ (P : Program) (t : TypeId) (y z : Operand), evBin P .or t y z (.int .u16 (M : Int)) (.int .u16 ((2 ^ n : Nat) : Int)) = some (.int .u16 ((M ||| 2 ^ n : Nat) : Int)) := fun P t y z => bin_orN P t y z rfl hM hp
            have hos : ofStep M (n : Int) = M ||| 2 ^ n := by unfold ofStep; rw [if_pos ⟨q0, q1⟩, toNat_nat]
            generalize 2 ^ n = p at *
            have hM2 : M ||| p < 65536 := Nat.or_lt_two_pow (n := 16) hM hp
            simp (maxSteps := 1000000) (disch := first | decide | omega | (simp only [go_sem]; first | done | omega)) only [go_sem, Int.reduceToNat, Nat.reduceMul, Nat.reduceAdd, Nat.reduceSub, ↓EU_region, ↓EU_draw, g3, g6, g8, hr0, d0, d1, e1, e2, hwi, hwu]
            exact ⟨_, by omega, i + 1, _, M ||| p, rfl, rfl, by omega, by simp (maxSteps := 1000000) (disch := first | decide | omega | (simp only [go_sem]; first | done | omega)) only [go_sem, Int.reduceToNat, Nat.reduceMul, Nat.reduceAdd, Nat.reduceSub, ↓EU_region, ↓EU_draw], hM2, by simp (maxSteps := 1000000) (disch := first | decide | omega | (simp only [go_sem]; first | done | omega)) only [go_sem, Int.reduceToNat, Nat.reduceMul, Nat.reduceAdd, Nat.reduceSub, ↓EU_region, ↓EU_draw, g6], by simp (maxSteps := 1000000) (disch := first | decide | omega | (simp only [go_sem]; first | done | omega)) only [go_sem, Int.reduceToNat, Nat.reduceMul, Nat.reduceAdd, Nat.reduceSub, ↓EU_region, ↓EU_draw], by rw [hst, hos]⟩
          · have d1 : decide (x < 16) = false := decide_eq_false q1
            have hos : ofStep M x = M := by unfold ofStep; rw [if_neg fun q => q1 q.2]
            simp (maxSteps := 1000000) (disch := first | decide | omega | (simp only [go_sem]; first | done | omega)) only [go_sem, Int.reduceToNat, Nat.reduceMul, Nat.reduceAdd, Nat.reduceSub, ↓EU_region, ↓EU_draw, g3, g6, g8, hr0, d0, d1, hwi]
            exact ⟨_, by omega, i + 1, _, M, rfl, rfl, by omega, by simp (maxSteps := 1000000) (disch := first | decide | omega | (simp only [go_sem]; first | done | omega)) only [go_sem, Int.reduceToNat, Nat.reduceMul, Nat.reduceAdd, Nat.reduceSub, ↓EU_region, ↓EU_draw, g3], hM, by simp (maxSteps := 1000000) (disch := first | decide | omega | (simp only [go_sem]; first | done | omega)) only [go_sem, Int.reduceToNat, Nat.reduceMul, Nat.reduceAdd, Nat.reduceSub, ↓EU_region, ↓EU_draw, g6], by simp (maxSteps := 1000000) (disch := first | decide | omega | (simp only [go_sem]; first | done | omega)) only [go_sem, Int.reduceToNat, Nat.reduceMul, Nat.reduceAdd, Nat.reduceSub, ↓EU_region, ↓EU_draw], by rw [hst, hos]⟩
        · have d0 : decide (x ≥ 0) = false := decide_eq_false q0
          have hos : ofStep M x = M := by unfold ofStep; rw [if_neg fun q => q0 q.1]
          simp (maxSteps := 1000000) (disch := first | decide | omega | (simp only [go_sem]; first | done | omega)) only [go_sem, Int.reduceToNat, Nat.reduceMul, Nat.reduceAdd, Nat.reduceSub, ↓EU_region, ↓EU_draw, g3, g6, g8, hr0, d0, hwi]
          exact ⟨_, by omega, i + 1, _, M, rfl, rfl, by omega, by simp (maxSteps := 1000000) (disch := first | decide | omega | (simp only [go_sem]; first | done | omega)) only [go_sem, Int.reduceToNat, Nat.reduceMul, Nat.reduceAdd, Nat.reduceSub, ↓EU_region, ↓EU_draw, g3], hM, by simp (maxSteps := 1000000) (disch := first | decide | omega | (simp only [go_sem]; first | done | omega)) only [go_sem, Int.reduceToNat, Nat.reduceMul, Nat.reduceAdd, Nat.reduceSub, ↓EU_region, ↓EU_draw, g6], by simp (maxSteps := 1000000) (disch := first | decide | omega | (simp only [go_sem]; first | done | omega)) only [go_sem, Int.reduceToNat, Nat.reduceMul, Nat.reduceAdd, Nat.reduceSub, ↓EU_region, ↓EU_draw], by rw [hst, hos]⟩
      · simp only [decide_eq_false_iff_not] at b1
        have : i = l.length := by omega
        subst this
        rw [List.take_length] at hf
        simp (maxSteps := 1000000) (disch := first | decide | omega | (simp only [go_sem]; first | done | omega)) only [go_sem, Int.reduceToNat, Nat.reduceMul, Nat.reduceAdd, Nat.reduceSub, ↓EU_region, ↓EU_draw]
        exact ⟨_, rfl, trivial, by simp (maxSteps := 1000000) (disch := first | decide | omega | (simp only [go_sem]; first | done | omega)) only [go_sem, Int.reduceToNat, Nat.reduceMul, Nat.reduceAdd, Nat.reduceSub, ↓EU_region, ↓EU_draw, g3]; rw [hf]; rfl⟩
    · exact ⟨0, _, 0, rfl, rfl, by omega, by simp (maxSteps := 1000000) (disch := first | decide | omega | (simp only [go_sem]; first | done | omega)) only [go_sem, Int.reduceToNat, Nat.reduceMul, Nat.reduceAdd, Nat.reduceSub, ↓EU_region, ↓EU_draw]; rfl, by decide, by simp (maxSteps := 1000000) (disch := first | decide | omega | (simp only [go_sem]; first | done | omega)) only [go_sem, Int.reduceToNat, Nat.reduceMul, Nat.reduceAdd, Nat.reduceSub, ↓EU_region, ↓EU_draw], by simp (maxSteps := 1000000) (disch := first | decide | omega | (simp only [go_sem]; first | done | omega)) only [go_sem, Int.reduceToNat, Nat.reduceMul, Nat.reduceAdd, Nat.reduceSub, ↓EU_region, ↓EU_draw]; rfl, rfl⟩
    · omega
    · rintro ⟨q, _⟩ ⟨tm, rfl, rfl, g3⟩
      simp (maxSteps := 1000000) (disch := first | decide | omega | (simp only [go_sem]; first | done | omega)) only [go_sem, Int.reduceToNat, Nat.reduceMul, Nat.reduceAdd, Nat.reduceSub, ↓EU_region, ↓EU_draw, g3]
  obtain ⟨q, e, rfl⟩ := this
  exact e
theorem coresT_map (M i : Nat) : coresT M i = (coresI M i).map itoaB := by
  unfold coresT coresI
  rw [List.map_map]; rfl
theorem join_snoc (x : List UInt8) : ∀ l : List (List UInt8), l ≠ [] → Lib.join (l ++ [x]) [44] = Lib.join l [44] ++ [44] ++ x
  | [], h => (h rfl).elim
  | y :: l, _ => by
    rw [List.cons_append, Lib.join_cons, Lib.join_cons]
    unfold Lib.joinTail
    rw [List.map_append, List.flatten_append]
    simp only [List.map_cons, List.map_nil, List.flatten_cons, List.flatten_nil, List.append_nil, List.append_assoc]
theorem rtext_ev (M : Nat) (hM : M < 65536) (h : Heap) :
    WPo (EF Tryd.prog O0 18 [.int .u16 (M : Int)] h) fun q => q.1 = strV (textM M) ∧ Ext h q.2 := by
  rw [EF_body (O := O0) (by kernel_rfl) Tryd.func18 rfl (rs := [.tmp 2]) rfl (bad := []) (by kernel_rfl) _ _ (m := 30) rfl]
  simp (maxSteps := 1000000) (disch := first | decide | omega | (simp only [go_sem]; first | done | omega)) only [go_sem, Int.reduceToNat, Nat.reduceMul, Nat.reduceAdd, Nat.reduceSub, ↓EU_region, ↓EU_draw]
  repeat refine WPo_ob ?_
  refine (rcores_ev M hM h).mono ?_
  rintro ⟨v1, h1⟩ ⟨o1, f1, x1⟩
  simp only at o1 f1 x1
  have hs := o1.sl
  have hlen := coresI_len M 16
  have hsm := coresT_small M 16 (Nat.le_refl _)
  have hrg : ∀ x ∈ coresI M 16, 0 ≤ x ∧ x < 16 := fun x hx => by
    unfold coresI at hx
    obtain ⟨n, hn, rfl⟩ := List.mem_map.1 hx
    have := List.mem_range.1 (List.mem_filter.1 hn).1
    omega
  unfold textM
  rw [coresT_map] at hsm ⊢
  generalize coresI M 16 = l at *
  obtain ⟨a, c, rfl⟩ := hs.val
  by_cases q0 : l = []
  · subst q0
    rw [if_pos (by rfl)]
    simp (maxSteps := 1000000) (disch := first | decide | omega | (simp only [go_sem]; first | done | omega)) only [go_sem, Int.reduceToNat, Nat.reduceMul, Nat.reduceAdd, Nat.reduceSub, ↓EU_region, ↓EU_draw, dec_t, dec_f]
    exact ⟨rfl, x1⟩
  · have hl0 : 0 < l.length := by
      rcases Nat.eq_zero_or_pos l.length with q | q
      · exact (q0 (List.length_eq_zero_iff.1 q)).elim
      · exact q
    have d0 : decide ((l.length : Int) = 0) = false := decide_eq_false (by omega)
    rw [if_neg (fun e => q0 (List.map_eq_nil_iff.1 e))]
    obtain ⟨x, hx⟩ : ∃ x, l[0]? = some x := ⟨_, List.getElem?_eq_getElem hl0⟩
    have hx16 := hrg x (List.mem_of_getElem? hx)
    obtain ⟨b, o, c', e, hb', hrd, hr⟩ := hs.at hx rfl
    cases e
    have hr0 := hr 0 _ rfl
    rw [add_z] at hr0
    have hnum := num_ev x h1 (by omega) (by omega)
    have d1 : decide ((0 : Int) < (l.length : Int)) = true := decide_eq_true (by omega)
    have ht1 : itoaB x = Lib.join ((l.take 1).map itoaB) [44] := by
      cases l with
      | nil => cases hx
      | cons y l =>
        simp only [List.getElem?_cons_zero, Option.some.injEq] at hx
        subst hx
        rw [List.take_succ_cons, List.take_zero, List.map_cons, List.map_nil, Lib.join_cons]
        unfold Lib.joinTail
        rw [List.map_nil, List.flatten_nil, List.append_nil]
    obtain ⟨t0, et0⟩ : ∃ t, t = itoaB x := ⟨_, rfl⟩
    rw [← et0] at hnum ht1
    simp (maxSteps := 1000000) (disch := first | decide | omega | (simp only [go_sem]; first | done | omega)) only [go_sem, Int.reduceToNat, Nat.reduceMul, Nat.reduceAdd, Nat.reduceSub, ↓EU_region, ↓EU_draw, d0, d1, hr0, hnum]
    repeat refine WPo_ob ?_
    refine (LP_rule (fun m st => ∃ (i : Nat) (tm : Fr) (t : List UInt8), st = ⟨tm, h1, []⟩ ∧ m = l.length - i ∧ 1 ≤ i ∧ i ≤ l.length ∧ Fr.get tm 3 = .slice (some ⟨b, o, none⟩) l.length c ∧ Fr.get tm 4 = strV t ∧ Fr.get tm 5 = .int .i64 i ∧ t = Lib.join ((l.take i).map itoaB) [44])
      (fun q => ∃ tm, q.2 = ⟨tm, h1, []⟩ ∧ q.1 = .exit 0 ∧ Fr.get tm 4 = strV (Lib.join (l.map itoaB) [44])) ?_ (l.length - 1) _ _ ?_ ?_).mono ?_
    · rintro m _ ⟨i, tm, t, rfl, rfl, h1i, hi, g3, g4, g5, ht⟩
      simp (maxSteps := 1000000) (disch := first | decide | omega | (simp only [go_sem]; first | done | omega)) only [go_sem, Int.reduceToNat, Nat.reduceMul, Nat.reduceAdd, Nat.reduceSub, ↓EU_region, ↓EU_draw, g3, g5]
      ((repeat refine WPo_ob ?_); (first | refine WPo_cond (fun b1 => ?_) (fun b1 => ?_) | refine WPo_gard (fun b1 => ?_) (fun b1 => ?_) | refine WPo_gardT (fun b1 => ?_) (fun b1 => ?_)) <;> (try simp only [Bool.not_eq_true', Bool.not_eq_false'] at b1))
      · have b1' := b1
        simp only [decide_eq_true_eq] at b1'
        have hi' : i < l.length := by omega
        obtain ⟨y, hy⟩ : ∃ y, l[i]? = some y := ⟨_, List.getElem?_eq_getElem hi'⟩
        have hy16 := hrg y (List.mem_of_getElem? hy)
        obtain ⟨b2, o2, c2, e, hb2, hrd2, hr2⟩ := hs.at hy rfl
        cases e
        have hr3 := hr2 0 _ rfl
        rw [add_z] at hr3
        have hwi : wrapF .i64 ((i : Int) + 1) = ((i + 1 : Nat) : Int) := by rw [wrap64 (by omega)]; rfl
        have hnum2 := num_ev y h1 (by omega) (by omega)
        have htl : t.length ≤ 22 * i := by
          rw [ht]
          refine Nat.le_trans (join_len fun z hz => hsm z ?_) ?_
          · rw [List.map_take] at hz; exact List.mem_of_mem_take hz
          · rw [List.length_map, List.length_take]; omega
        have hyl := hsm (itoaB y) (List.mem_map_of_mem (List.mem_of_getElem? hy))
        have hnx : Lib.join ((l.take (i + 1)).map itoaB) [44] = t ++ [44] ++ itoaB y := by
          rw [List.take_add_one, hy, List.map_append, ht]
          refine join_snoc (itoaB y) _ fun e => ?_
          have := congrArg List.length e
          rw [List.length_map, List.length_take] at this
          simp only [List.length_nil] at this
          omega
        obtain ⟨u, hu⟩ : ∃ u, u = t ++ [44] := ⟨_, rfl⟩
        have hul : u.length = t.length + 1 := by rw [hu, List.length_append]; rfl
        have a1 : ∀ (P : Program) (t' : TypeId) (y z : Operand), evBin P .add t' y z (strV t) (.string ⟨#[44]⟩) = some (strV u) := fun P t' y z => by
          rw [hu]
          exact str_add P t' y z t [44] (by rw [List.length_singleton]; omega)
        rw [← hu] at hnx
        obtain ⟨w, hw⟩ : ∃ w, w = itoaB y := ⟨_, rfl⟩
        rw [← hw] at hnum2 hnx hyl
        obtain ⟨z, hz⟩ : ∃ z, z = u ++ w := ⟨_, rfl⟩
        have a2 : ∀ (P : Program) (t' : TypeId) (y z' : Operand), evBin P .add t' y z' (strV u) (strV w) = some (strV z) := fun P t' y z' => by
          rw [hz]
          exact str_add P t' y z' u w (by omega)
        rw [← hz] at hnx
        simp (maxSteps := 1000000) (disch := first | decide | omega | (simp only [go_sem]; first | done | omega)) only [go_sem, Int.reduceToNat, Nat.reduceMul, Nat.reduceAdd, Nat.reduceSub, ↓EU_region, ↓EU_draw, g3, g4, g5, hr3, hnum2, a1, a2, hwi]
        exact ⟨_, by omega, i + 1, _, z, rfl, rfl, by omega, by omega, by simp (maxSteps := 1000000) (disch := first | decide | omega | (simp only [go_sem]; first | done | omega)) only [go_sem, Int.reduceToNat, Nat.reduceMul, Nat.reduceAdd, Nat.reduceSub, ↓EU_region, ↓EU_draw, g3], by simp (maxSteps := 1000000) (disch := first | decide | omega | (simp only [go_sem]; first | done | omega)) only [go_sem, Int.reduceToNat, Nat.reduceMul, Nat.reduceAdd, Nat.reduceSub, ↓EU_region, ↓EU_draw], by simp (maxSteps := 1000000) (disch := first | decide | omega | (simp only [go_sem]; first | done | omega)) only [go_sem, Int.reduceToNat, Nat.reduceMul, Nat.reduceAdd, Nat.reduceSub, ↓EU_region, ↓EU_draw], hnx.symm⟩
      · simp only [decide_eq_false_iff_not] at b1
        have : i = l.length := by omega
        subst this
        rw [List.take_length] at ht
        simp (maxSteps := 1000000) (disch := first | decide | omega | (simp only [go_sem]; first | done | omega)) only [go_sem, Int.reduceToNat, Nat.reduceMul, Nat.reduceAdd, Nat.reduceSub, ↓EU_region, ↓EU_draw]
        exact ⟨_, rfl, trivial, by simp (maxSteps := 1000000) (disch := first | decide | omega | (simp only [go_sem]; first | done | omega)) only [go_sem, Int.reduceToNat, Nat.reduceMul, Nat.reduceAdd, Nat.reduceSub, ↓EU_region, ↓EU_draw, g4]; rw [ht]⟩
    · exact ⟨1, _, t0, rfl, rfl, by omega, by omega, by simp (maxSteps := 1000000) (disch := first | decide | omega | (simp only [go_sem]; first | done | omega)) only [go_sem, Int.reduceToNat, Nat.reduceMul, Nat.reduceAdd, Nat.reduceSub, ↓EU_region, ↓EU_draw], by simp (maxSteps := 1000000) (disch := first | decide | omega | (simp only [go_sem]; first | done | omega)) only [go_sem, Int.reduceToNat, Nat.reduceMul, Nat.reduceAdd, Nat.reduceSub, ↓EU_region, ↓EU_draw], by simp (maxSteps := 1000000) (disch := first | decide | omega | (simp only [go_sem]; first | done | omega)) only [go_sem, Int.reduceToNat, Nat.reduceMul, Nat.reduceAdd, Nat.reduceSub, ↓EU_region, ↓EU_draw]; rfl, ht1⟩
    · omega
    · rintro ⟨q, _⟩ ⟨tm, rfl, rfl, g4⟩
      simp (maxSteps := 1000000) (disch := first | decide | omega | (simp only [go_sem]; first | done | omega)) only [go_sem, Int.reduceToNat, Nat.reduceMul, Nat.reduceAdd, Nat.reduceSub, ↓EU_region, ↓EU_draw, g4]
      exact ⟨trivial, x1⟩
theorem cores_last (M : Nat) : ∀ i, (cores M i = [] ∧ ∀ j, j < i → hasN M j = false) ∨ ∃ n l, cores M i = l ++ [n] ∧ n < i ∧ hasN M n = true ∧ ∀ j, n < j → j < i → hasN M j = false
  | 0 => .inl ⟨rfl, fun j h => absurd h (Nat.not_lt_zero _)⟩
  | i + 1 => by
    cases hb : hasN M i with
    | true => exact .inr ⟨i, cores M i, cores_t hb, by omega, hb, fun j h1 h2 => by omega⟩
    | false =>
      rw [cores_f hb]
      rcases cores_last M i with ⟨h1, h2⟩ | ⟨n, l, h1, h2, h3, h4⟩
      · refine .inl ⟨h1, fun j hj => ?_⟩
        rcases Nat.lt_or_ge j i with q | q
        · exact h2 j q
        · rw [show j = i by omega]; exact hb
      · refine .inr ⟨n, l, h1, by omega, h3, fun j hj hj2 => ?_⟩
        rcases Nat.lt_or_ge j i with q | q
        · exact h4 j hj q
        · rw [show j = i by omega]; exact hb
theorem has_ge {M : Nat} (hM : M < 65536) {j : Nat} (h : 16 ≤ j) : hasN M j = false :=
  Nat.testBit_lt_two_pow (Nat.lt_of_lt_of_le hM (Nat.pow_le_pow_right (n := 2) (by decide) h : 2 ^ 16 ≤ 2 ^ j))
theorem shr_zero {M : Nat} (k : Nat) : M >>> k = 0 ↔ ∀ j, k ≤ j → hasN M j = false := by
  constructor
  · intro h j hj
    have : (M >>> k).testBit (j - k) = M.testBit (k + (j - k)) := Nat.testBit_shiftRight ..
    rw [h, Nat.zero_testBit, show k + (j - k) = j by omega] at this
    exact this.symm
  · intro h
    apply Nat.eq_of_testBit_eq
    intro j
    rw [Nat.testBit_shiftRight, Nat.zero_testBit]
    exact h (k + j) (by omega)
noncomputable def goodMN (M : Nat) (k : Int) : Bool := decide (1 ≤ k) && (decide (k ≤ 16) && (!(decide (M = 0)) && decide (M >>> k.toNat = 0)))
theorem good_ev (M : Nat) (hM : M < 65536) (k : Int) (h : Heap) :
    EF Tryd.prog O0 14 [.int .u16 (M : Int), .int .i64 k] h = some (.bool (goodMN M k), h) := by
  have : WPo (EF Tryd.prog O0 14 [.int .u16 (M : Int), .int .i64 k] h) fun q => q = (.bool (goodMN M k), h) := by
    unfold goodMN
    rw [EF_body (O := O0) (by kernel_rfl) Tryd.func14 rfl (rs := [.tmp 4]) rfl (bad := []) (by kernel_rfl) _ _ (m := 22) rfl]
    by_cases q0 : 1 ≤ k
    · have d0 : decide (1 ≤ k) = true := decide_eq_true q0
      have d0' : decide (k ≥ 1) = true := decide_eq_true q0
      by_cases q1 : k ≤ 16
      · have d1 : decide (k ≤ 16) = true := decide_eq_true q1
        by_cases q2 : M = 0
        · subst q2
          have d2 : decide (((0 : Nat) : Int) = 0) = true := rfl
          simp (maxSteps := 1000000) (disch := first | decide | omega | (simp only [go_sem]; first | done | omega)) only [go_sem, Int.reduceToNat, Nat.reduceMul, Nat.reduceAdd, Nat.reduceSub, ↓EU_region, ↓EU_draw, d0, d0', d1, d2]
        · have d2 : decide ((M : Int) = 0) = false := decide_eq_false (by omega)
          have d3 : decide (M = 0) = false := decide_eq_false q2
          obtain ⟨n, rfl⟩ := Int.eq_ofNat_of_zero_le (show 0 ≤ k by omega)
          have hw : wrapF .i64 (M : Int) = (M : Int) := wrap64 (by omega)
          have e1 : ∀ (P : Program) (t : TypeId) (x y : Operand), evBin P .shr t x y (.int .i64 (M : Int)) (.int .i64 (n : Int)) = some (.int .i64 ((M >>> n : Nat) : Int)) := fun P t x y => bin_shrN P t x y (by show n ≤ 64; omega)
          have e2 : decide (((M >>> n : Nat) : Int) = 0) = decide (M >>> n = 0) := by
            rw [decide_eq_decide]; omega
          simp (maxSteps := 1000000) (disch := first | decide | omega | (simp only [go_sem]; first | done | omega)) only [go_sem, Int.reduceToNat, Nat.reduceMul, Nat.reduceAdd, Nat.reduceSub, ↓EU_region, ↓EU_draw, d0, d0', d1, d2, d3, hw, e1, e2, toNat_nat]
      · have d1 : decide (k ≤ 16) = false := decide_eq_false q1
        simp (maxSteps := 1000000) (disch := first | decide | omega | (simp only [go_sem]; first | done | omega)) only [go_sem, Int.reduceToNat, Nat.reduceMul, Nat.reduceAdd, Nat.reduceSub, ↓EU_region, ↓EU_draw, d0, d0', d1]
    · have d0 : decide (1 ≤ k) = false := decide_eq_false q0
      have d0' : decide (k ≥ 1) = false := decide_eq_false q0
      simp (maxSteps := 1000000) (disch := first | decide | omega | (simp only [go_sem]; first | done | omega)) only [go_sem, Int.reduceToNat, Nat.reduceMul, Nat.reduceAdd, Nat.reduceSub, ↓EU_region, ↓EU_draw, d0, d0']
  obtain ⟨q, e, rfl⟩ := this
  exact e
theorem rgood_ev (M : Nat) (hM : M < 65536) (k : Int) (h : Heap) :
    WPo (EF Tryd.prog O0 19 [.int .u16 (M : Int), .int .i64 k] h) fun q => q.1 = .bool (goodMN M k) ∧ Ext h q.2 := by
  unfold goodMN
  rw [EF_body (O := O0) (by kernel_rfl) Tryd.func19 rfl (rs := [.tmp 4]) rfl (bad := []) (by kernel_rfl) _ _ (m := 29) rfl]
  simp (maxSteps := 1000000) (disch := first | decide | omega | (simp only [go_sem]; first | done | omega)) only [go_sem, Int.reduceToNat, Nat.reduceMul, Nat.reduceAdd, Nat.reduceSub, ↓EU_region, ↓EU_draw]
  repeat refine WPo_ob ?_
  refine (rcores_ev M hM h).mono ?_
  rintro ⟨v1, h1⟩ ⟨o1, f1, x1⟩
  simp only at o1 f1 x1
  have hs := o1.sl
  have hlen := coresI_len M 16
  obtain ⟨a, c, rfl⟩ := hs.val
  by_cases q0 : 1 ≤ k
  · have d0 : decide (1 ≤ k) = true := decide_eq_true q0
    have d0' : decide (k ≥ 1) = true := decide_eq_true q0
    by_cases q1 : k ≤ 16
    · have d1 : decide (k ≤ 16) = true := decide_eq_true q1
      obtain ⟨n, rfl⟩ := Int.eq_ofNat_of_zero_le (show 0 ≤ k by omega)
      rcases cores_last M 16 with ⟨e0, e1⟩ | ⟨m, l, e0, e1, e2, e3⟩
      · have hM0 : M = 0 := by
          apply Nat.eq_of_testBit_eq
          intro j
          rw [Nat.zero_testBit]
          rcases Nat.lt_or_ge j 16 with q | q
          · exact e1 j q
          · exact has_ge hM q
        subst hM0
        have el : coresI 0 16 = [] := by unfold coresI; rw [e0]; rfl
        rw [el]
        have d2 : decide (((0 : Nat) : Int) > 0) = false := by decide
        rw [List.length_nil]
        simp (maxSteps := 1000000) (disch := first | decide | omega | (simp only [go_sem]; first | done | omega)) only [go_sem, Int.reduceToNat, Nat.reduceMul, Nat.reduceAdd, Nat.reduceSub, ↓EU_region, ↓EU_draw, dec_t, dec_f, d0, d0', d1, d2]
        first | exact x1 | exact ⟨rfl, x1⟩ | exact ⟨trivial, x1⟩
      · have el : coresI M 16 = (l.map fun (n : Nat) => (n : Int)) ++ [(m : Int)] := by unfold coresI; rw [e0, List.map_append]; rfl
        have hll : (coresI M 16).length = l.length + 1 := by rw [el, List.length_append, List.length_map]; rfl
        have hlx : (coresI M 16)[l.length]? = some (m : Int) := by rw [el, List.getElem?_append_right (by rw [List.length_map]; omega), List.length_map, Nat.sub_self]; rfl
        have hM0 : M ≠ 0 := fun e => by
          unfold hasN at e2
          rw [e, Nat.zero_testBit] at e2
          cases e2
        have d3 : decide (M = 0) = false := decide_eq_false hM0
        have d4 : decide (M >>> n = 0) = decide ((m : Int) < (n : Int)) := by
          rw [decide_eq_decide, shr_zero]
          constructor
          · intro hz
            by_cases q : n ≤ m
            · rw [hz m q] at e2; cases e2
            · omega
          · intro hz j hj
            rcases Nat.lt_or_ge j 16 with q | q
            · exact e3 j (by omega) q
            · exact has_ge hM q
        obtain ⟨b, o, c', e, hb', hrd, hr⟩ := hs.at hlx rfl
        cases e
        have hr0 := hr 0 _ rfl
        rw [add_z] at hr0
        generalize coresI M 16 = L at *
        have d2 : decide ((L.length : Int) > 0) = true := decide_eq_true (by omega)
        have hw : wrapF .i64 ((L.length : Int) - 1) = (l.length : Int) := by rw [wrap64 (by omega)]; omega
        have d5 : decide ((l.length : Int) < (L.length : Int)) = true := decide_eq_true (by omega)
        simp (maxSteps := 1000000) (disch := first | decide | omega | (simp only [go_sem]; first | done | omega)) only [go_sem, Int.reduceToNat, Nat.reduceMul, Nat.reduceAdd, Nat.reduceSub, ↓EU_region, ↓EU_draw, d0, d0', d1, d2, d3, d4, d5, hw, hr0, toNat_nat]
        first | exact x1 | exact ⟨rfl, x1⟩ | exact ⟨trivial, x1⟩
    · have d1 : decide (k ≤ 16) = false := decide_eq_false q1
      simp (maxSteps := 1000000) (disch := first | decide | omega | (simp only [go_sem]; first | done | omega)) only [go_sem, Int.reduceToNat, Nat.reduceMul, Nat.reduceAdd, Nat.reduceSub, ↓EU_region, ↓EU_draw, d0, d0', d1]
      first | exact x1 | exact ⟨rfl, x1⟩ | exact ⟨trivial, x1⟩
  · have d0 : decide (1 ≤ k) = false := decide_eq_false q0
    have d0' : decide (k ≥ 1) = false := decide_eq_false q0
    simp (maxSteps := 1000000) (disch := first | decide | omega | (simp only [go_sem]; first | done | omega)) only [go_sem, Int.reduceToNat, Nat.reduceMul, Nat.reduceAdd, Nat.reduceSub, ↓EU_region, ↓EU_draw, d0, d0']
    first | exact x1 | exact ⟨rfl, x1⟩ | exact ⟨trivial, x1⟩
end Go.Proofs.YtpgekabdemmlfaaDoor.EV
