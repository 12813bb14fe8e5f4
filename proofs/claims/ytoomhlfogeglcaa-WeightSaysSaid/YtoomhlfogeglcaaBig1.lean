/- The reference's numbers of any size: values, at, cmpSize, put. No condition. -/
import Derived.Test.YtoomhlfogeglcaaWh1
import Derived.Test.YtoomhlfogeglcaaWt1
namespace Go.Proofs.Ytoomhlfogeglcaa.EV
open Go Go.Proofs
set_option linter.unusedVariables false
set_option linter.unusedSimpArgs false
set_option maxRecDepth 100000
set_option pp.deepTerms false
set_option pp.deepTerms.threshold 20
noncomputable def val : List Int → Int
  | [] => 0
  | d :: l => d + 65536 * val l
noncomputable def dig (l : List Int) : Prop := ∀ d ∈ l, 0 ≤ d ∧ d < 65536
theorem dig_nil : dig [] := fun d h => by cases h
theorem dig_cons {d : Int} {l : List Int} (h : dig (d :: l)) : (0 ≤ d ∧ d < 65536) ∧ dig l := ⟨h d (by simp), fun x hx => h x (by simp [hx])⟩
theorem dig_app {a b : List Int} (ha : dig a) (hb : dig b) : dig (a ++ b) := fun d h => by
  rcases List.mem_append.1 h with h | h
  · exact ha d h
  · exact hb d h
theorem dig_one {d : Int} (h : 0 ≤ d ∧ d < 65536) : dig [d] := fun x hx => by rw [List.mem_singleton.1 hx]; exact h
theorem dig_drop {a : List Int} (i : Nat) (ha : dig a) : dig (a.drop i) := fun d h => ha d (List.mem_of_mem_drop h)
theorem dig_take {a : List Int} (i : Nat) (ha : dig a) : dig (a.take i) := fun d h => ha d (List.mem_of_mem_take h)
theorem dig_at {a : List Int} (ha : dig a) (i : Nat) : 0 ≤ a.getD i 0 ∧ a.getD i 0 < 65536 := by
  rw [List.getD_eq_getElem?_getD]
  cases h : a[i]? with
  | none => exact ⟨by decide, by decide⟩
  | some d => exact ha d (List.mem_of_getElem? h)
noncomputable def pw (n : Nat) : Int := 65536 ^ n
theorem pw_zero : pw 0 = 1 := rfl
theorem pw_succ (n : Nat) : pw (n + 1) = 65536 * pw n := by unfold pw; rw [Int.pow_succ, Int.mul_comm]
theorem pw_pos (n : Nat) : 0 < pw n := Int.pow_pos (by decide)
theorem pw_add (a b : Nat) : pw (a + b) = pw a * pw b := Int.pow_add _ _ _
theorem pw_le {a b : Nat} (h : a ≤ b) : pw a ≤ pw b := by
  obtain ⟨k, rfl⟩ := Nat.le.dest h
  rw [pw_add]
  have h1 := pw_pos a
  have h2 := pw_pos k
  have := Int.mul_le_mul_of_nonneg_left (show 1 ≤ pw k by omega) (Int.le_of_lt h1)
  omega
theorem val_range : ∀ {l : List Int}, dig l → 0 ≤ val l ∧ val l < pw l.length
  | [], _ => ⟨Int.le_refl _, by decide⟩
  | d :: l, h => by
    have h1 := dig_cons h
    have ih := val_range h1.2
    rw [List.length_cons, pw_succ, val]
    omega
theorem val_app : ∀ (a b : List Int), val (a ++ b) = val a + pw a.length * val b
  | [], b => by rw [List.nil_append, List.length_nil, pw_zero]; simp [val]
  | d :: a, b => by
    rw [List.cons_append, val, val, val_app a b, List.length_cons, pw_succ, Int.mul_add, Int.mul_assoc]
    omega
theorem val_one (d : Int) : val [d] = d := by simp [val]
theorem val_split (l : List Int) (j : Nat) : val l = val (l.take j) + pw j * val (l.drop j) := by
  by_cases h : j ≤ l.length
  · have e : (l.take j).length = j := by rw [List.length_take]; omega
    have := val_app (l.take j) (l.drop j)
    rw [List.take_append_drop, e] at this
    exact this
  · rw [List.take_of_length_le (by omega), List.drop_of_length_le (by omega)]
    simp [val]
theorem val_drop (l : List Int) (j : Nat) : val (l.drop j) = l.getD j 0 + 65536 * val (l.drop (j + 1)) := by
  by_cases h : j < l.length
  · rw [List.drop_eq_getElem_cons h, val, List.getD_eq_getElem?_getD, List.getElem?_eq_getElem h]; rfl
  · rw [List.drop_of_length_le (by omega), List.drop_of_length_le (by omega), List.getD_eq_getElem?_getD, List.getElem?_eq_none (by omega)]; rfl
theorem val_take_range {l : List Int} (h : dig l) (j : Nat) : 0 ≤ val (l.take j) ∧ val (l.take j) < pw j := by
  have h1 := val_range (dig_take j h)
  have h2 : pw (l.take j).length ≤ pw j := pw_le (by rw [List.length_take]; omega)
  omega
/-- what stands higher decides -/
theorem val_lt {a b : List Int} (ha : dig a) (hb : dig b) (j : Nat) (h : val (a.drop j) < val (b.drop j)) : val a < val b := by
  rw [val_split a j, val_split b j]
  have h1 := val_take_range ha j
  have h2 := val_take_range hb j
  have h3 := Int.mul_le_mul_of_nonneg_left (show val (a.drop j) + 1 ≤ val (b.drop j) by omega) (Int.le_of_lt (pw_pos j))
  rw [Int.mul_add, Int.mul_one] at h3
  omega
theorem rat_ev (l : List Int) (s : Value) (i : Nat) (h : Heap) (hs : SL (intE .i64) 1 h s l) (hl : l.length < 900000) :
    EF Try.prog O0 43 [s, .int .i64 i] h = some (.int .i64 (l.getD i 0), h) := by
  have : WPo (EF Try.prog O0 43 [s, .int .i64 i] h) fun q => q = (.int .i64 (l.getD i 0), h) := by
    rw [EF_body (O := O0) (by kernel_rfl) Try.func43 rfl (rs := [.tmp 4]) rfl (bad := []) (by kernel_rfl) _ _ (m := 13) rfl]
    obtain ⟨a, c, hv⟩ := hs.val
    subst hv
    by_cases q : i < l.length
    · have d : decide ((i : Int) < l.length) = true := decide_eq_true (by omega)
      obtain ⟨x, hx⟩ : ∃ x, l[i]? = some x := ⟨_, List.getElem?_eq_getElem q⟩
      obtain ⟨b, o, c', e, hb', hrd, hr⟩ := hs.at hx rfl
      cases e
      have hr0 := hr 0 _ rfl
      rw [add_z] at hr0
      rw [List.getD_eq_getElem?_getD, hx]
      simp (maxSteps := 1000000) (disch := first | decide | omega | (simp only [go_sem]; first | done | omega)) only [go_sem, Int.reduceToNat, Nat.reduceMul, Nat.reduceAdd, Nat.reduceSub, ↓EU_region, ↓EU_draw, d, hr0]
      rfl
    · have d : decide ((i : Int) < l.length) = false := decide_eq_false (by omega)
      rw [List.getD_eq_getElem?_getD, List.getElem?_eq_none (by omega)]
      simp (maxSteps := 1000000) (disch := first | decide | omega | (simp only [go_sem]; first | done | omega)) only [go_sem, Int.reduceToNat, Nat.reduceMul, Nat.reduceAdd, Nat.reduceSub, ↓EU_region, ↓EU_draw, d]
      rfl
  obtain ⟨q, e, rfl⟩ := this
  exact e
theorem cmpSize_ev (a b : List Int) (s t : Value) (h : Heap) (hs : SL (intE .i64) 1 h s a) (ht : SL (intE .i64) 1 h t b) (ha : dig a) (hb : dig b) (hla : a.length < 900) (hlb : b.length < 900) :
    EF Try.prog O0 44 [s, t] h = some (.int .i64 (sgnC (val a) (val b)), h) := by
  have : WPo (EF Try.prog O0 44 [s, t] h) fun q => q = (.int .i64 (sgnC (val a) (val b)), h) := by
    rw [EF_body (O := O0) (by kernel_rfl) Try.func44 rfl (rs := [.tmp 4]) rfl (bad := []) (by kernel_rfl) _ _ (m := 35) rfl]
    have eat := fun i => rat_ev a s i h hs (by omega)
    have ebt := fun i => rat_ev b t i h ht (by omega)
    obtain ⟨sa, ca, hv⟩ := hs.val
    subst hv
    obtain ⟨sb, cb, hv⟩ := ht.val
    subst hv
    simp (maxSteps := 1000000) (disch := first | decide | omega | (simp only [go_sem]; first | done | omega)) only [go_sem, Int.reduceToNat, Nat.reduceMul, Nat.reduceAdd, Nat.reduceSub, ↓EU_region, ↓EU_draw]
    by_cases q : (a.length : Int) < b.length
    · have d : decide ((a.length : Int) < b.length) = true := decide_eq_true q
      simp (maxSteps := 1000000) (disch := first | decide | omega | (simp only [go_sem]; first | done | omega)) only [go_sem, Int.reduceToNat, Nat.reduceMul, Nat.reduceAdd, Nat.reduceSub, ↓EU_region, ↓EU_draw, d]
      repeat refine WPo_ob ?_
      refine (LP_rule (fun m st => ∃ (i : Nat) (tm : Fr), st = ⟨tm, h, []⟩ ∧ m = i ∧ i ≤ b.length ∧ Fr.get tm 0 = .slice sa a.length ca ∧ Fr.get tm 1 = .slice sb b.length cb ∧ Fr.get tm 6 = .int .i64 ((i : Int) - 1) ∧ val (a.drop i) = val (b.drop i))
        (fun q => ∃ tm, q.2 = ⟨tm, h, []⟩ ∧ ((q.1 = .exit 0 ∧ val a = val b) ∨ (q.1 = .ret ∧ Fr.get tm 4 = .int .i64 (sgnC (val a) (val b))))) ?_ b.length _ _ ?_ ?_).mono ?_
      · rintro m _ ⟨i, tm, rfl, rfl, hi, g0, g1, g6, he⟩
        cases m with
        | zero =>
          have d1 : decide (0 ≤ ((0 : Nat) : Int) - 1) = false := by decide
          rw [List.drop_zero, List.drop_zero] at he
          simp (maxSteps := 1000000) (disch := first | decide | omega | (simp only [go_sem]; first | done | omega)) only [go_sem, Int.reduceToNat, Nat.reduceMul, Nat.reduceAdd, Nat.reduceSub, ↓EU_region, ↓EU_draw, g0, g1, g6, d1]
          exact ⟨_, rfl, .inl ⟨trivial, he⟩⟩
        | succ i =>
          have d1 : decide (0 ≤ ((i + 1 : Nat) : Int) - 1) = true := decide_eq_true (by omega)
          have ei : ((i + 1 : Nat) : Int) - 1 = (i : Int) := by omega
          rw [ei] at g6 d1
          have va := val_drop a i
          have vb := val_drop b i
          by_cases c1 : a.getD i 0 < b.getD i 0
          · have d2 : decide (a.getD i 0 < b.getD i 0) = true := decide_eq_true c1
            have hlt := val_lt ha hb i (by omega)
            simp (maxSteps := 1000000) (disch := first | decide | omega | (simp only [go_sem]; first | done | omega)) only [go_sem, Int.reduceToNat, Nat.reduceMul, Nat.reduceAdd, Nat.reduceSub, ↓EU_region, ↓EU_draw, g0, g1, g6, d1, eat, ebt, d2]
            exact ⟨_, rfl, .inr ⟨trivial, by simp (maxSteps := 1000000) (disch := first | decide | omega | (simp only [go_sem]; first | done | omega)) only [go_sem, Int.reduceToNat, Nat.reduceMul, Nat.reduceAdd, Nat.reduceSub, ↓EU_region, ↓EU_draw]; unfold sgnC; rw [if_pos hlt]⟩⟩
          · have d2 : decide (a.getD i 0 < b.getD i 0) = false := decide_eq_false c1
            by_cases c2 : b.getD i 0 < a.getD i 0
            · have d3 : decide (b.getD i 0 < a.getD i 0) = true := decide_eq_true c2
              have hlt := val_lt hb ha i (by omega)
              simp (maxSteps := 1000000) (disch := first | decide | omega | (simp only [go_sem]; first | done | omega)) only [go_sem, Int.reduceToNat, Nat.reduceMul, Nat.reduceAdd, Nat.reduceSub, ↓EU_region, ↓EU_draw, g0, g1, g6, d1, eat, ebt, d2, d3]
              exact ⟨_, rfl, .inr ⟨trivial, by simp (maxSteps := 1000000) (disch := first | decide | omega | (simp only [go_sem]; first | done | omega)) only [go_sem, Int.reduceToNat, Nat.reduceMul, Nat.reduceAdd, Nat.reduceSub, ↓EU_region, ↓EU_draw]; unfold sgnC; rw [if_neg (by omega), if_pos hlt]⟩⟩
            · have d3 : decide (b.getD i 0 < a.getD i 0) = false := decide_eq_false c2
              have hw : wrapF .i64 ((i : Int) - 1) = (i : Int) - 1 := wrap64 (by omega)
              simp (maxSteps := 1000000) (disch := first | decide | omega | (simp only [go_sem]; first | done | omega)) only [go_sem, Int.reduceToNat, Nat.reduceMul, Nat.reduceAdd, Nat.reduceSub, ↓EU_region, ↓EU_draw, g0, g1, g6, d1, eat, ebt, d2, d3, hw]
              exact ⟨i, by omega, i, _, rfl, rfl, by omega, by simp (maxSteps := 1000000) (disch := first | decide | omega | (simp only [go_sem]; first | done | omega)) only [go_sem, Int.reduceToNat, Nat.reduceMul, Nat.reduceAdd, Nat.reduceSub, ↓EU_region, ↓EU_draw, g0], by simp (maxSteps := 1000000) (disch := first | decide | omega | (simp only [go_sem]; first | done | omega)) only [go_sem, Int.reduceToNat, Nat.reduceMul, Nat.reduceAdd, Nat.reduceSub, ↓EU_region, ↓EU_draw, g1], by simp (maxSteps := 1000000) (disch := first | decide | omega | (simp only [go_sem]; first | done | omega)) only [go_sem, Int.reduceToNat, Nat.reduceMul, Nat.reduceAdd, Nat.reduceSub, ↓EU_region, ↓EU_draw], by omega⟩
      · refine ⟨b.length, _, rfl, rfl, Nat.le_refl _, by simp (maxSteps := 1000000) (disch := first | decide | omega | (simp only [go_sem]; first | done | omega)) only [go_sem, Int.reduceToNat, Nat.reduceMul, Nat.reduceAdd, Nat.reduceSub, ↓EU_region, ↓EU_draw], by simp (maxSteps := 1000000) (disch := first | decide | omega | (simp only [go_sem]; first | done | omega)) only [go_sem, Int.reduceToNat, Nat.reduceMul, Nat.reduceAdd, Nat.reduceSub, ↓EU_region, ↓EU_draw], ?_, ?_⟩
        · simp (maxSteps := 1000000) (disch := first | decide | omega | (simp only [go_sem]; first | done | omega)) only [go_sem, Int.reduceToNat, Nat.reduceMul, Nat.reduceAdd, Nat.reduceSub, ↓EU_region, ↓EU_draw]
          try (congr 1; omega)
        · rw [List.drop_of_length_le (by omega), List.drop_of_length_le (by omega)]
      · omega
      · rintro ⟨q, _⟩ ⟨tm, rfl, ⟨rfl, he⟩ | ⟨rfl, g4⟩⟩
        · simp (maxSteps := 1000000) (disch := first | decide | omega | (simp only [go_sem]; first | done | omega)) only [go_sem, Int.reduceToNat, Nat.reduceMul, Nat.reduceAdd, Nat.reduceSub, ↓EU_region, ↓EU_draw]
          unfold sgnC
          rw [he, if_neg (by omega), if_neg (by omega)]
        · simp (maxSteps := 1000000) (disch := first | decide | omega | (simp only [go_sem]; first | done | omega)) only [go_sem, Int.reduceToNat, Nat.reduceMul, Nat.reduceAdd, Nat.reduceSub, ↓EU_region, ↓EU_draw, g4]
    · have d : decide ((a.length : Int) < b.length) = false := decide_eq_false q
      simp (maxSteps := 1000000) (disch := first | decide | omega | (simp only [go_sem]; first | done | omega)) only [go_sem, Int.reduceToNat, Nat.reduceMul, Nat.reduceAdd, Nat.reduceSub, ↓EU_region, ↓EU_draw, d]
      repeat refine WPo_ob ?_
      refine (LP_rule (fun m st => ∃ (i : Nat) (tm : Fr), st = ⟨tm, h, []⟩ ∧ m = i ∧ i ≤ a.length ∧ Fr.get tm 0 = .slice sa a.length ca ∧ Fr.get tm 1 = .slice sb b.length cb ∧ Fr.get tm 6 = .int .i64 ((i : Int) - 1) ∧ val (a.drop i) = val (b.drop i))
        (fun q => ∃ tm, q.2 = ⟨tm, h, []⟩ ∧ ((q.1 = .exit 0 ∧ val a = val b) ∨ (q.1 = .ret ∧ Fr.get tm 4 = .int .i64 (sgnC (val a) (val b))))) ?_ a.length _ _ ?_ ?_).mono ?_
      · rintro m _ ⟨i, tm, rfl, rfl, hi, g0, g1, g6, he⟩
        cases m with
        | zero =>
          have d1 : decide (0 ≤ ((0 : Nat) : Int) - 1) = false := by decide
          rw [List.drop_zero, List.drop_zero] at he
          simp (maxSteps := 1000000) (disch := first | decide | omega | (simp only [go_sem]; first | done | omega)) only [go_sem, Int.reduceToNat, Nat.reduceMul, Nat.reduceAdd, Nat.reduceSub, ↓EU_region, ↓EU_draw, g0, g1, g6, d1]
          exact ⟨_, rfl, .inl ⟨trivial, he⟩⟩
        | succ i =>
          have d1 : decide (0 ≤ ((i + 1 : Nat) : Int) - 1) = true := decide_eq_true (by omega)
          have ei : ((i + 1 : Nat) : Int) - 1 = (i : Int) := by omega
          rw [ei] at g6 d1
          have va := val_drop a i
          have vb := val_drop b i
          by_cases c1 : a.getD i 0 < b.getD i 0
          · have d2 : decide (a.getD i 0 < b.getD i 0) = true := decide_eq_true c1
            have hlt := val_lt ha hb i (by omega)
            simp (maxSteps := 1000000) (disch := first | decide | omega | (simp only [go_sem]; first | done | omega)) only [go_sem, Int.reduceToNat, Nat.reduceMul, Nat.reduceAdd, Nat.reduceSub, ↓EU_region, ↓EU_draw, g0, g1, g6, d1, eat, ebt, d2]
            exact ⟨_, rfl, .inr ⟨trivial, by simp (maxSteps := 1000000) (disch := first | decide | omega | (simp only [go_sem]; first | done | omega)) only [go_sem, Int.reduceToNat, Nat.reduceMul, Nat.reduceAdd, Nat.reduceSub, ↓EU_region, ↓EU_draw]; unfold sgnC; rw [if_pos hlt]⟩⟩
          · have d2 : decide (a.getD i 0 < b.getD i 0) = false := decide_eq_false c1
            by_cases c2 : b.getD i 0 < a.getD i 0
            · have d3 : decide (b.getD i 0 < a.getD i 0) = true := decide_eq_true c2
              have hlt := val_lt hb ha i (by omega)
              simp (maxSteps := 1000000) (disch := first | decide | omega | (simp only [go_sem]; first | done | omega)) only [go_sem, Int.reduceToNat, Nat.reduceMul, Nat.reduceAdd, Nat.reduceSub, ↓EU_region, ↓EU_draw, g0, g1, g6, d1, eat, ebt, d2, d3]
              exact ⟨_, rfl, .inr ⟨trivial, by simp (maxSteps := 1000000) (disch := first | decide | omega | (simp only [go_sem]; first | done | omega)) only [go_sem, Int.reduceToNat, Nat.reduceMul, Nat.reduceAdd, Nat.reduceSub, ↓EU_region, ↓EU_draw]; unfold sgnC; rw [if_neg (by omega), if_pos hlt]⟩⟩
            · have d3 : decide (b.getD i 0 < a.getD i 0) = false := decide_eq_false c2
              have hw : wrapF .i64 ((i : Int) - 1) = (i : Int) - 1 := wrap64 (by omega)
              simp (maxSteps := 1000000) (disch := first | decide | omega | (simp only [go_sem]; first | done | omega)) only [go_sem, Int.reduceToNat, Nat.reduceMul, Nat.reduceAdd, Nat.reduceSub, ↓EU_region, ↓EU_draw, g0, g1, g6, d1, eat, ebt, d2, d3, hw]
              exact ⟨i, by omega, i, _, rfl, rfl, by omega, by simp (maxSteps := 1000000) (disch := first | decide | omega | (simp only [go_sem]; first | done | omega)) only [go_sem, Int.reduceToNat, Nat.reduceMul, Nat.reduceAdd, Nat.reduceSub, ↓EU_region, ↓EU_draw, g0], by simp (maxSteps := 1000000) (disch := first | decide | omega | (simp only [go_sem]; first | done | omega)) only [go_sem, Int.reduceToNat, Nat.reduceMul, Nat.reduceAdd, Nat.reduceSub, ↓EU_region, ↓EU_draw, g1], by simp (maxSteps := 1000000) (disch := first | decide | omega | (simp only [go_sem]; first | done | omega)) only [go_sem, Int.reduceToNat, Nat.reduceMul, Nat.reduceAdd, Nat.reduceSub, ↓EU_region, ↓EU_draw], by omega⟩
      · refine ⟨a.length, _, rfl, rfl, Nat.le_refl _, by simp (maxSteps := 1000000) (disch := first | decide | omega | (simp only [go_sem]; first | done | omega)) only [go_sem, Int.reduceToNat, Nat.reduceMul, Nat.reduceAdd, Nat.reduceSub, ↓EU_region, ↓EU_draw], by simp (maxSteps := 1000000) (disch := first | decide | omega | (simp only [go_sem]; first | done | omega)) only [go_sem, Int.reduceToNat, Nat.reduceMul, Nat.reduceAdd, Nat.reduceSub, ↓EU_region, ↓EU_draw], ?_, ?_⟩
        · simp (maxSteps := 1000000) (disch := first | decide | omega | (simp only [go_sem]; first | done | omega)) only [go_sem, Int.reduceToNat, Nat.reduceMul, Nat.reduceAdd, Nat.reduceSub, ↓EU_region, ↓EU_draw]
          try (congr 1; omega)
        · rw [List.drop_of_length_le (by omega), List.drop_of_length_le (by omega)]
      · omega
      · rintro ⟨q, _⟩ ⟨tm, rfl, ⟨rfl, he⟩ | ⟨rfl, g4⟩⟩
        · simp (maxSteps := 1000000) (disch := first | decide | omega | (simp only [go_sem]; first | done | omega)) only [go_sem, Int.reduceToNat, Nat.reduceMul, Nat.reduceAdd, Nat.reduceSub, ↓EU_region, ↓EU_draw]
          unfold sgnC
          rw [he, if_neg (by omega), if_neg (by omega)]
        · simp (maxSteps := 1000000) (disch := first | decide | omega | (simp only [go_sem]; first | done | omega)) only [go_sem, Int.reduceToNat, Nat.reduceMul, Nat.reduceAdd, Nat.reduceSub, ↓EU_region, ↓EU_draw, g4]
  obtain ⟨q, e, rfl⟩ := this
  exact e
end Go.Proofs.Ytoomhlfogeglcaa.EV
