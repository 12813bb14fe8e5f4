/- Contracts: masks: Of, Len, ints. No condition. -/
import Derived.Test.YtpgekabdemmlfaaDoorMask3
namespace Go.Proofs.YtpgekabdemmlfaaDoor.EV
open Go Go.Proofs
set_option linter.unusedVariables false
set_option linter.unusedSimpArgs false
set_option maxRecDepth 100000
set_option pp.deepTerms false
set_option pp.deepTerms.threshold 20
noncomputable def ofStep (m : Nat) (c : Int) : Nat := if 0 ≤ c ∧ c < 16 then m ||| 2 ^ c.toNat else m
noncomputable def ofN (l : List Int) : Nat := l.foldl ofStep 0
theorem ofStep_lt {m : Nat} (h : m < 65536) (c : Int) : ofStep m c < 65536 := by
  unfold ofStep
  split
  · rename_i q
    have : 2 ^ c.toNat < 2 ^ 16 := Nat.pow_lt_pow_right (by decide) (by omega)
    exact Nat.or_lt_two_pow (n := 16) h this
  · exact h
theorem ofFold_lt : ∀ (l : List Int) (m : Nat), m < 65536 → l.foldl ofStep m < 65536
  | [], m, h => h
  | c :: l, m, h => ofFold_lt l _ (ofStep_lt h c)
theorem of_ev (l : List Int) (s : Value) (h : Heap) (hs : SL (intE .i64) 1 h s l) (hl : l.length < 900000) :
    EF Tryd.prog O0 10 [s] h = some (.int .u16 (ofN l : Int), h) := by
  have : WPo (EF Tryd.prog O0 10 [s] h) fun q => q = (.int .u16 (ofN l : Int), h) := by
    rw [EF_body (O := O0) (by kernel_rfl) Tryd.func10 rfl (rs := [.tmp 2]) rfl (bad := []) (by kernel_rfl) _ _ (m := 24) rfl]
    obtain ⟨a, c, hv⟩ := hs.val
    subst hv
    simp (maxSteps := 1000000) (disch := first | decide | omega | (simp only [go_sem]; first | done | omega)) only [go_sem, Int.reduceToNat, Nat.reduceMul, Nat.reduceAdd, Nat.reduceSub, ↓EU_region, ↓EU_draw]
    repeat refine WPo_ob ?_
    refine (LP_rule (fun m st => ∃ (i : Nat) (tm : Fr) (M : Nat), st = ⟨tm, h, []⟩ ∧ m = l.length - i ∧ i ≤ l.length ∧ Fr.get tm 3 = .int .u16 (M : Int) ∧ M < 65536 ∧ Fr.get tm 6 = .slice a l.length c ∧ Fr.get tm 7 = .int .i64 l.length ∧ Fr.get tm 8 = .int .i64 i ∧ M = (l.take i).foldl ofStep 0)
      (fun q => ∃ tm, q.2 = ⟨tm, h, []⟩ ∧ q.1 = .exit 0 ∧ Fr.get tm 3 = .int .u16 (ofN l : Int)) ?_ l.length _ _ ?_ ?_).mono ?_
    · rintro m _ ⟨i, tm, M, rfl, rfl, hi, g3, hM, g6, g7, g8, hf⟩
      simp (maxSteps := 1000000) (disch := first | decide | omega | (simp only [go_sem]; first | done | omega)) only [go_sem, Int.reduceToNat, Nat.reduceMul, Nat.reduceAdd, Nat.reduceSub, ↓EU_region, ↓EU_draw, g7, g8]
      ((repeat refine WPo_ob ?_); (first | refine WPo_cond (fun b1 => ?_) (fun b1 => ?_) | refine WPo_gard (fun b1 => ?_) (fun b1 => ?_) | refine WPo_gardT (fun b1 => ?_) (fun b1 => ?_)) <;> (try simp only [Bool.not_eq_true', Bool.not_eq_false'] at b1))
      · have b1' := b1
        simp only [decide_eq_true_eq] at b1'
        have hi' : i < l.length := by omega
        obtain ⟨x, hx⟩ : ∃ x, l[i]? = some x := ⟨_, List.getElem?_eq_getElem hi'⟩
        obtain ⟨b, o, c', e, hb', hrd, hr⟩ := hs.at hx rfl
        cases e
        have hr0 := hr 0 _ rfl
        rw [add_z] at hr0
        have hwi : wrapF .i64 ((i : Int) + 1) = ((i + 1 : Nat) : Int) := by rw [wrap64 (by omega)]; rfl
        have hst : (l.take (i + 1)).foldl ofStep 0 = ofStep M x := by rw [List.take_add_one, hx, List.foldl_append, ← hf]; rfl
        by_cases q0 : 0 ≤ x
        · have d0 : decide (x ≥ 0) = true := decide_eq_true q0
          by_cases q1 : x < 16
          · have d1 : decide (x < 16) = true := decide_eq_true q1
            obtain ⟨n, rfl⟩ := Int.eq_ofNat_of_zero_le q0
            have hp : 2 ^ n < 65536 := by
              have : 2 ^ n < 2 ^ 16 := Nat.pow_lt_pow_right (by decide) (by omega)
              exact this
            have e1 : ∀ (P : Program) (t : TypeId) (y z : Operand), evBin P .shl t y z (.int .u16 1) (.int .i64 (n : Int)) = some (.int .u16 ((2 ^ n : Nat) : Int)) := fun P t y z => by
              rw [bin_shl64 P t y z ⟨by omega, by show (n : Int) ≤ (16 : Nat); omega⟩, toNat_nat]
              have : (1 : Int) * 2 ^ n = ((2 ^ n : Nat) : Int) := by rw [Int.one_mul]; norm_cast
              rw [this, wrapF_nat rfl hp]
            have e2 : ∀ (P : Program) (t : TypeId) (y z : Operand), evBin P .or t y z (.int .u16 (M : Int)) (.int .u16 ((2 ^ n : Nat) : Int)) = some (.int .u16 ((M ||| 2 ^ n : Nat) : Int)) := fun P t y z => bin_orN P t y z rfl hM hp
            have hos : ofStep M (n : Int) = M ||| 2 ^ n := by unfold ofStep; rw [if_pos ⟨q0, q1⟩, toNat_nat]
            generalize 2 ^ n = p at *
            have hM2 : M ||| p < 65536 := Nat.or_lt_two_pow (n := 16) hM hp
            simp (maxSteps := 1000000) (disch := first | decide | omega | (simp only [go_sem]; first | done | omega)) only [go_sem, Int.reduceToNat, Nat.reduceMul, Nat.reduceAdd, Nat.reduceSub, ↓EU_region, ↓EU_draw, g3, g6, g7, g8, hr0, d0, d1, e1, e2, hwi]
            exact ⟨_, by omega, i + 1, _, M ||| p, rfl, rfl, by omega, by simp (maxSteps := 1000000) (disch := first | decide | omega | (simp only [go_sem]; first | done | omega)) only [go_sem, Int.reduceToNat, Nat.reduceMul, Nat.reduceAdd, Nat.reduceSub, ↓EU_region, ↓EU_draw], hM2, by simp (maxSteps := 1000000) (disch := first | decide | omega | (simp only [go_sem]; first | done | omega)) only [go_sem, Int.reduceToNat, Nat.reduceMul, Nat.reduceAdd, Nat.reduceSub, ↓EU_region, ↓EU_draw, g6], by simp (maxSteps := 1000000) (disch := first | decide | omega | (simp only [go_sem]; first | done | omega)) only [go_sem, Int.reduceToNat, Nat.reduceMul, Nat.reduceAdd, Nat.reduceSub, ↓EU_region, ↓EU_draw, g7], by simp (maxSteps := 1000000) (disch := first | decide | omega | (simp only [go_sem]; first | done | omega)) only [go_sem, Int.reduceToNat, Nat.reduceMul, Nat.reduceAdd, Nat.reduceSub, ↓EU_region, ↓EU_draw], by rw [hst, hos]⟩
          · have d1 : decide (x < 16) = false := decide_eq_false q1
            have hos : ofStep M x = M := by unfold ofStep; rw [if_neg fun q => q1 q.2]
            simp (maxSteps := 1000000) (disch := first | decide | omega | (simp only [go_sem]; first | done | omega)) only [go_sem, Int.reduceToNat, Nat.reduceMul, Nat.reduceAdd, Nat.reduceSub, ↓EU_region, ↓EU_draw, g3, g6, g7, g8, hr0, d0, d1, hwi]
            exact ⟨_, by omega, i + 1, _, M, rfl, rfl, by omega, by simp (maxSteps := 1000000) (disch := first | decide | omega | (simp only [go_sem]; first | done | omega)) only [go_sem, Int.reduceToNat, Nat.reduceMul, Nat.reduceAdd, Nat.reduceSub, ↓EU_region, ↓EU_draw, g3], hM, by simp (maxSteps := 1000000) (disch := first | decide | omega | (simp only [go_sem]; first | done | omega)) only [go_sem, Int.reduceToNat, Nat.reduceMul, Nat.reduceAdd, Nat.reduceSub, ↓EU_region, ↓EU_draw, g6], by simp (maxSteps := 1000000) (disch := first | decide | omega | (simp only [go_sem]; first | done | omega)) only [go_sem, Int.reduceToNat, Nat.reduceMul, Nat.reduceAdd, Nat.reduceSub, ↓EU_region, ↓EU_draw, g7], by simp (maxSteps := 1000000) (disch := first | decide | omega | (simp only [go_sem]; first | done | omega)) only [go_sem, Int.reduceToNat, Nat.reduceMul, Nat.reduceAdd, Nat.reduceSub, ↓EU_region, ↓EU_draw], by rw [hst, hos]⟩
        · have d0 : decide (x ≥ 0) = false := decide_eq_false q0
          have hos : ofStep M x = M := by unfold ofStep; rw [if_neg fun q => q0 q.1]
          simp (maxSteps := 1000000) (disch := first | decide | omega | (simp only [go_sem]; first | done | omega)) only [go_sem, Int.reduceToNat, Nat.reduceMul, Nat.reduceAdd, Nat.reduceSub, ↓EU_region, ↓EU_draw, g3, g6, g7, g8, hr0, d0, hwi]
          exact ⟨_, by omega, i + 1, _, M, rfl, rfl, by omega, by simp (maxSteps := 1000000) (disch := first | decide | omega | (simp only [go_sem]; first | done | omega)) only [go_sem, Int.reduceToNat, Nat.reduceMul, Nat.reduceAdd, Nat.reduceSub, ↓EU_region, ↓EU_draw, g3], hM, by simp (maxSteps := 1000000) (disch := first | decide | omega | (simp only [go_sem]; first | done | omega)) only [go_sem, Int.reduceToNat, Nat.reduceMul, Nat.reduceAdd, Nat.reduceSub, ↓EU_region, ↓EU_draw, g6], by simp (maxSteps := 1000000) (disch := first | decide | omega | (simp only [go_sem]; first | done | omega)) only [go_sem, Int.reduceToNat, Nat.reduceMul, Nat.reduceAdd, Nat.reduceSub, ↓EU_region, ↓EU_draw, g7], by simp (maxSteps := 1000000) (disch := first | decide | omega | (simp only [go_sem]; first | done | omega)) only [go_sem, Int.reduceToNat, Nat.reduceMul, Nat.reduceAdd, Nat.reduceSub, ↓EU_region, ↓EU_draw], by rw [hst, hos]⟩
      · simp only [decide_eq_false_iff_not] at b1
        have : i = l.length := by omega
        subst this
        rw [List.take_length] at hf
        simp (maxSteps := 1000000) (disch := first | decide | omega | (simp only [go_sem]; first | done | omega)) only [go_sem, Int.reduceToNat, Nat.reduceMul, Nat.reduceAdd, Nat.reduceSub, ↓EU_region, ↓EU_draw]
        exact ⟨_, rfl, trivial, by simp (maxSteps := 1000000) (disch := first | decide | omega | (simp only [go_sem]; first | done | omega)) only [go_sem, Int.reduceToNat, Nat.reduceMul, Nat.reduceAdd, Nat.reduceSub, ↓EU_region, ↓EU_draw, g3]; rw [hf]; rfl⟩
    · exact ⟨0, _, 0, rfl, rfl, by omega, by simp (maxSteps := 1000000) (disch := first | decide | omega | (simp only [go_sem]; first | done | omega)) only [go_sem, Int.reduceToNat, Nat.reduceMul, Nat.reduceAdd, Nat.reduceSub, ↓EU_region, ↓EU_draw]; rfl, by decide, by simp (maxSteps := 1000000) (disch := first | decide | omega | (simp only [go_sem]; first | done | omega)) only [go_sem, Int.reduceToNat, Nat.reduceMul, Nat.reduceAdd, Nat.reduceSub, ↓EU_region, ↓EU_draw], by simp (maxSteps := 1000000) (disch := first | decide | omega | (simp only [go_sem]; first | done | omega)) only [go_sem, Int.reduceToNat, Nat.reduceMul, Nat.reduceAdd, Nat.reduceSub, ↓EU_region, ↓EU_draw], by simp (maxSteps := 1000000) (disch := first | decide | omega | (simp only [go_sem]; first | done | omega)) only [go_sem, Int.reduceToNat, Nat.reduceMul, Nat.reduceAdd, Nat.reduceSub, ↓EU_region, ↓EU_draw]; rfl, rfl⟩
    · omega
    · rintro ⟨q, _⟩ ⟨tm, rfl, rfl, g3⟩
      simp (maxSteps := 1000000) (disch := first | decide | omega | (simp only [go_sem]; first | done | omega)) only [go_sem, Int.reduceToNat, Nat.reduceMul, Nat.reduceAdd, Nat.reduceSub, ↓EU_region, ↓EU_draw, g3]
  obtain ⟨q, e, rfl⟩ := this
  exact e
noncomputable def cnt8 (k : Nat) : Nat := ((List.range 8).filter (hasN k)).length
noncomputable def tab8 : ByteArray := ⟨#[0, 1, 1, 2, 1, 2, 2, 3, 1, 2, 2, 3, 2, 3, 3, 4, 1, 2, 2, 3, 2, 3, 3, 4, 2, 3, 3, 4, 3, 4, 4, 5, 1, 2, 2, 3, 2, 3, 3, 4, 2, 3, 3, 4, 3, 4, 4, 5, 2, 3, 3, 4, 3, 4, 4, 5, 3, 4, 4, 5, 4, 5, 5, 6, 1, 2, 2, 3, 2, 3, 3, 4, 2, 3, 3, 4, 3, 4, 4, 5, 2, 3, 3, 4, 3, 4, 4, 5, 3, 4, 4, 5, 4, 5, 5, 6, 2, 3, 3, 4, 3, 4, 4, 5, 3, 4, 4, 5, 4, 5, 5, 6, 3, 4, 4, 5, 4, 5, 5, 6, 4, 5, 5, 6, 5, 6, 6, 7, 1, 2, 2, 3, 2, 3, 3, 4, 2, 3, 3, 4, 3, 4, 4, 5, 2, 3, 3, 4, 3, 4, 4, 5, 3, 4, 4, 5, 4, 5, 5, 6, 2, 3, 3, 4, 3, 4, 4, 5, 3, 4, 4, 5, 4, 5, 5, 6, 3, 4, 4, 5, 4, 5, 5, 6, 4, 5, 5, 6, 5, 6, 6, 7, 2, 3, 3, 4, 3, 4, 4, 5, 3, 4, 4, 5, 4, 5, 5, 6, 3, 4, 4, 5, 4, 5, 5, 6, 4, 5, 5, 6, 5, 6, 6, 7, 3, 4, 4, 5, 4, 5, 5, 6, 4, 5, 5, 6, 5, 6, 6, 7, 4, 5, 5, 6, 5, 6, 6, 7, 5, 6, 6, 7, 6, 7, 7, 8]⟩
theorem tab8_at : ∀ k, k < 256 → tab8.data.toList[k]? = some (UInt8.ofNat (cnt8 k)) := by decide +kernel
theorem cnt8_le (k : Nat) : cnt8 k ≤ 8 := by
  have := List.length_filter_le (hasN k) (List.range 8)
  rw [List.length_range] at this
  exact this
theorem cores_cnt (M : Nat) : (cores M 16).length = cnt8 (M >>> 8) + cnt8 (M &&& 255) := by
  have e1 : ((List.range 8).filter (hasN M)).length = cnt8 (M &&& 255) := by
    unfold cnt8
    congr 1
    apply List.filter_congr
    intro x hx
    rw [List.mem_range] at hx
    unfold hasN
    rw [Nat.testBit_and, show (255 : Nat) = 2 ^ 8 - 1 from rfl, Nat.testBit_two_pow_sub_one, decide_eq_true hx, Bool.and_true]
  have e2 : ((List.range 8).filter (hasN M ∘ fun x => 8 + x)).length = cnt8 (M >>> 8) := by
    unfold cnt8
    congr 1
  unfold cores
  rw [show (16 : Nat) = 8 + 8 from rfl, List.range_add, List.filter_append, List.length_append, List.filter_map, List.length_map, e1, e2, Nat.add_comm]
theorem ix8 (T : ByteArray) (hT : T.data.toList = tab8.data.toList) {a : Nat} (ha : a < 256) (h : Heap) : evIxStr h T (a : Int) .string = some (.int .u8 ((cnt8 a : Nat) : Int), h) := by
  have t1 := tab8_at a ha
  have c1 := cnt8_le a
  unfold evIxStr
  rw [hT, toNat_nat, t1, ob_some, decide_eq_true (show (0 : Int) ≤ (a : Int) by omega), UInt8.toNat_ofNat', Nat.mod_eq_of_lt (by omega)]
  rfl
theorem ones_ev (M : Nat) (hM : M < 65536) (h : Heap) : EF Tryd.prog O0 24 [.int .u16 (M : Int)] h = some (.int .i64 ((cores M 16).length : Int), h) := by
  have : WPo (EF Tryd.prog O0 24 [.int .u16 (M : Int)] h) fun q => q = (.int .i64 ((cores M 16).length : Int), h) := by
    rw [cores_cnt]
    have h1 : M >>> 8 < 256 := by rw [Nat.shiftRight_eq_div_pow]; omega
    have h2 : M &&& 255 < 256 := Nat.lt_of_le_of_lt Nat.and_le_right (by decide)
    have e1 : ∀ (P : Program) (t : TypeId) (x y : Operand), evBin P .shr t x y (.int .u16 (M : Int)) (.int .u64 8) = some (.int .u16 ((M >>> 8 : Nat) : Int)) := fun P t x y => bin_shrN P t x y (m := 8) (by decide)
    have e2 : ∀ (P : Program) (t : TypeId) (x y : Operand), evBin P .and t x y (.int .u16 (M : Int)) (.int .u16 255) = some (.int .u16 ((M &&& 255 : Nat) : Int)) := fun P t x y => bin_andN P t x y (m := 255) rfl hM (by decide)
    have c1 := cnt8_le (M >>> 8)
    have c2 := cnt8_le (M &&& 255)
    generalize M >>> 8 = a at *
    generalize M &&& 255 = b at *
    rw [EF_body (O := O0) (by kernel_rfl) Tryd.func24 rfl (rs := [.tmp 2]) rfl (bad := []) (by kernel_rfl) _ _ (m := 11) rfl]
    have hw1 : wrapF .u8 (((cnt8 a : Nat) : Int) + ((cnt8 b : Nat) : Int)) = ((cnt8 a + cnt8 b : Nat) : Int) := by
      rw [show ((cnt8 a : Nat) : Int) + ((cnt8 b : Nat) : Int) = ((cnt8 a + cnt8 b : Nat) : Int) by omega]
      exact wrapF_nat rfl (by show _ < 256; omega)
    have hw2 : wrapF .i64 ((cnt8 a + cnt8 b : Nat) : Int) = ((cnt8 a + cnt8 b : Nat) : Int) := wrap64 (by omega)
    simp (maxSteps := 1000000) (disch := first | decide | omega | (simp only [go_sem]; first | done | omega)) only [go_sem, Int.reduceToNat, Nat.reduceMul, Nat.reduceAdd, Nat.reduceSub, ↓EU_region, ↓EU_draw, e1, e2]
    rw [ix8 _ (by kernel_rfl) h1]
    simp (maxSteps := 1000000) (disch := first | decide | omega | (simp only [go_sem]; first | done | omega)) only [go_sem, Int.reduceToNat, Nat.reduceMul, Nat.reduceAdd, Nat.reduceSub, ↓EU_region, ↓EU_draw, e1, e2]
    rw [ix8 _ (by kernel_rfl) h2]
    simp (maxSteps := 1000000) (disch := first | decide | omega | (simp only [go_sem]; first | done | omega)) only [go_sem, Int.reduceToNat, Nat.reduceMul, Nat.reduceAdd, Nat.reduceSub, ↓EU_region, ↓EU_draw, hw1, hw2]
  obtain ⟨q, e, rfl⟩ := this
  exact e
theorem len_ev (M : Nat) (hM : M < 65536) (h : Heap) : EF Tryd.prog O0 11 [.int .u16 (M : Int)] h = some (.int .i64 ((cores M 16).length : Int), h) := by
  have : WPo (EF Tryd.prog O0 11 [.int .u16 (M : Int)] h) fun q => q = (.int .i64 ((cores M 16).length : Int), h) := by
    have ho := ones_ev M hM h
    rw [EF_body (O := O0) (by kernel_rfl) Tryd.func11 rfl (rs := [.tmp 2]) rfl (bad := []) (by kernel_rfl) _ _ (m := 5) rfl]
    simp (maxSteps := 1000000) (disch := first | decide | omega | (simp only [go_sem]; first | done | omega)) only [go_sem, Int.reduceToNat, Nat.reduceMul, Nat.reduceAdd, Nat.reduceSub, ↓EU_region, ↓EU_draw, ho]
  obtain ⟨q, e, rfl⟩ := this
  exact e
theorem ints_ev (l m : List Int) (s t : Value) (h : Heap) (hs : SL (intE .i64) 1 h s l) (ht : SL (intE .i64) 1 h t m) (hl : l.length < 900000) :
    EF Tryd.prog O0 12 [s, t] h = some (.bool (decide (l = m)), h) := by
  have : WPo (EF Tryd.prog O0 12 [s, t] h) fun q => q = (.bool (decide (l = m)), h) := by
    rw [EF_body (O := O0) (by kernel_rfl) Tryd.func12 rfl (rs := [.tmp 4]) rfl (bad := []) (by kernel_rfl) _ _ (m := 26) rfl]
    obtain ⟨a, c, hv⟩ := hs.val
    subst hv
    obtain ⟨a2, c2, hv⟩ := ht.val
    subst hv
    simp (maxSteps := 1000000) (disch := first | decide | omega | (simp only [go_sem]; first | done | omega)) only [go_sem, Int.reduceToNat, Nat.reduceMul, Nat.reduceAdd, Nat.reduceSub, ↓EU_region, ↓EU_draw]
    ((repeat refine WPo_ob ?_); (first | refine WPo_cond (fun b1 => ?_) (fun b1 => ?_) | refine WPo_gard (fun b1 => ?_) (fun b1 => ?_) | refine WPo_gardT (fun b1 => ?_) (fun b1 => ?_)) <;> (try simp only [Bool.not_eq_true', Bool.not_eq_false'] at b1))
    · have b1' := b1
      simp only [decide_eq_false_iff_not] at b1'
      simp (maxSteps := 1000000) (disch := first | decide | omega | (simp only [go_sem]; first | done | omega)) only [go_sem, Int.reduceToNat, Nat.reduceMul, Nat.reduceAdd, Nat.reduceSub, ↓EU_region, ↓EU_draw, b1]
      rw [decide_eq_false]
      intro e; subst e; exact b1' rfl
    · have b1' := b1
      simp only [decide_eq_true_eq] at b1'
      simp (maxSteps := 1000000) (disch := first | decide | omega | (simp only [go_sem]; first | done | omega)) only [go_sem, Int.reduceToNat, Nat.reduceMul, Nat.reduceAdd, Nat.reduceSub, ↓EU_region, ↓EU_draw, b1]
      repeat refine WPo_ob ?_
      refine (LP_rule (fun k st => ∃ i tm, st = ⟨tm, h, []⟩ ∧ k = l.length - i ∧ i ≤ l.length ∧ Fr.get tm 0 = .slice a l.length c ∧ Fr.get tm 1 = .slice a2 m.length c2 ∧ Fr.get tm 5 = .int .i64 i ∧ l.take i = m.take i)
        (fun q => ∃ tm, q.2 = ⟨tm, h, []⟩ ∧ ((q.1 = .exit 0 ∧ l = m) ∨ (q.1 = .ret ∧ l ≠ m ∧ Fr.get tm 4 = .bool false))) ?_ l.length _ _ ?_ ?_).mono ?_
      · rintro k _ ⟨i, tm, rfl, rfl, hi, g0, g1, g5, ht1⟩
        simp (maxSteps := 1000000) (disch := first | decide | omega | (simp only [go_sem]; first | done | omega)) only [go_sem, Int.reduceToNat, Nat.reduceMul, Nat.reduceAdd, Nat.reduceSub, ↓EU_region, ↓EU_draw, g0, g5]
        ((repeat refine WPo_ob ?_); (first | refine WPo_cond (fun b2 => ?_) (fun b2 => ?_) | refine WPo_gard (fun b2 => ?_) (fun b2 => ?_) | refine WPo_gardT (fun b2 => ?_) (fun b2 => ?_)) <;> (try simp only [Bool.not_eq_true', Bool.not_eq_false'] at b2))
        · simp only [decide_eq_true_eq] at b2
          have hi' : i < l.length := by omega
          obtain ⟨x, hx⟩ : ∃ x, l[i]? = some x := ⟨_, List.getElem?_eq_getElem hi'⟩
          obtain ⟨y, hy⟩ : ∃ y, m[i]? = some y := ⟨_, List.getElem?_eq_getElem (by omega)⟩
          obtain ⟨b, o, c', e, hb', hrd, hr⟩ := hs.at hx rfl
          cases e
          obtain ⟨b', o', c', e, hb'', hrd', hr'⟩ := ht.at hy rfl
          cases e
          have h0 := hr 0 _ rfl
          rw [add_z] at h0
          have h0' := hr' 0 _ rfl
          rw [add_z] at h0'
          have hwi : wrapF .i64 ((i : Int) + 1) = ((i + 1 : Nat) : Int) := by rw [wrap64 (by omega)]; rfl
          by_cases q : x = y
          · have d : decide (x = y) = true := decide_eq_true q
            simp (maxSteps := 1000000) (disch := first | decide | omega | (simp only [go_sem]; first | done | omega)) only [go_sem, Int.reduceToNat, Nat.reduceMul, Nat.reduceAdd, Nat.reduceSub, ↓EU_region, ↓EU_draw, g0, g1, g5, h0, h0', d, hwi]
            refine ⟨_, by omega, i + 1, _, rfl, rfl, by omega, by simp (maxSteps := 1000000) (disch := first | decide | omega | (simp only [go_sem]; first | done | omega)) only [go_sem, Int.reduceToNat, Nat.reduceMul, Nat.reduceAdd, Nat.reduceSub, ↓EU_region, ↓EU_draw, g0], by simp (maxSteps := 1000000) (disch := first | decide | omega | (simp only [go_sem]; first | done | omega)) only [go_sem, Int.reduceToNat, Nat.reduceMul, Nat.reduceAdd, Nat.reduceSub, ↓EU_region, ↓EU_draw, g1], by simp (maxSteps := 1000000) (disch := first | decide | omega | (simp only [go_sem]; first | done | omega)) only [go_sem, Int.reduceToNat, Nat.reduceMul, Nat.reduceAdd, Nat.reduceSub, ↓EU_region, ↓EU_draw], ?_⟩
            rw [List.take_add_one, List.take_add_one, ht1, hx, hy, q]
          · have d : decide (x = y) = false := decide_eq_false q
            simp (maxSteps := 1000000) (disch := first | decide | omega | (simp only [go_sem]; first | done | omega)) only [go_sem, Int.reduceToNat, Nat.reduceMul, Nat.reduceAdd, Nat.reduceSub, ↓EU_region, ↓EU_draw, g0, g1, g5, h0, h0', d]
            refine ⟨_, rfl, .inr ⟨trivial, ?_, by simp (maxSteps := 1000000) (disch := first | decide | omega | (simp only [go_sem]; first | done | omega)) only [go_sem, Int.reduceToNat, Nat.reduceMul, Nat.reduceAdd, Nat.reduceSub, ↓EU_region, ↓EU_draw]⟩⟩
            intro e; subst e; rw [hx] at hy; cases hy; exact q rfl
        · simp only [decide_eq_false_iff_not] at b2
          simp (maxSteps := 1000000) (disch := first | decide | omega | (simp only [go_sem]; first | done | omega)) only [go_sem, Int.reduceToNat, Nat.reduceMul, Nat.reduceAdd, Nat.reduceSub, ↓EU_region, ↓EU_draw]
          have : i = l.length := by omega
          subst this
          rw [List.take_length, List.take_of_length_le (by omega)] at ht1
          exact ⟨_, rfl, .inl ⟨trivial, ht1⟩⟩
      · exact ⟨0, _, rfl, rfl, by omega, by simp (maxSteps := 1000000) (disch := first | decide | omega | (simp only [go_sem]; first | done | omega)) only [go_sem, Int.reduceToNat, Nat.reduceMul, Nat.reduceAdd, Nat.reduceSub, ↓EU_region, ↓EU_draw], by simp (maxSteps := 1000000) (disch := first | decide | omega | (simp only [go_sem]; first | done | omega)) only [go_sem, Int.reduceToNat, Nat.reduceMul, Nat.reduceAdd, Nat.reduceSub, ↓EU_region, ↓EU_draw], by simp (maxSteps := 1000000) (disch := first | decide | omega | (simp only [go_sem]; first | done | omega)) only [go_sem, Int.reduceToNat, Nat.reduceMul, Nat.reduceAdd, Nat.reduceSub, ↓EU_region, ↓EU_draw]; rfl, by simp⟩
      · omega
      · rintro ⟨q, _⟩ ⟨tm, rfl, ⟨rfl, e1⟩ | ⟨rfl, e1, e2⟩⟩
        · simp (maxSteps := 1000000) (disch := first | decide | omega | (simp only [go_sem]; first | done | omega)) only [go_sem, Int.reduceToNat, Nat.reduceMul, Nat.reduceAdd, Nat.reduceSub, ↓EU_region, ↓EU_draw]
          rw [decide_eq_true e1]
        · simp (maxSteps := 1000000) (disch := first | decide | omega | (simp only [go_sem]; first | done | omega)) only [go_sem, Int.reduceToNat, Nat.reduceMul, Nat.reduceAdd, Nat.reduceSub, ↓EU_region, ↓EU_draw, e2]
          rw [decide_eq_false e1]
  obtain ⟨q, e, rfl⟩ := this
  exact e
end Go.Proofs.YtpgekabdemmlfaaDoor.EV
