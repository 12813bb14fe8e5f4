/- Contracts: loads: Of, Max, Index, Most, Clone, may. No condition. -/
import Derived.Test.YtnopeboieicipaaLoad1
namespace Go.Proofs.Ytnopeboieicipaa.EV
open Go Go.Proofs
set_option linter.unusedVariables false
set_option linter.unusedSimpArgs false
set_option maxRecDepth 100000
set_option pp.deepTerms false
set_option pp.deepTerms.threshold 20
theorem i64_len (x : Int) : (intE .i64 x).length = 1 := rfl
theorem i64_scal (x : Int) : (intE .i64 x).all scal = true := rfl
structure Tk where
  (id w core : Int)
  (mask : Nat)
noncomputable def tkE (x : Tk) : List Value := [.int .i64 x.id, .int .i64 x.w, .int .i64 x.core, .int .u16 (x.mask : Int)]
theorem tkE_len (x : Tk) : (tkE x).length = 4 := rfl
theorem tkE_scal (x : Tk) : (tkE x).all scal = true := rfl
theorem SL.acc {h : Heap} {v : Value} {ld : List Int} (s : SL (intE .i64) 1 h v ld) (hne : 0 < ld.length) : ∃ b o c, v = .slice (some ⟨b, o, none⟩) ld.length c ∧ b < h.next ∧ ∀ h', Ext h h' → ∀ (i : Nat) x, ld[i]? = some x → rdc1 (h'.get b) (o + i * 1) = some (.int .i64 x) := by
  obtain ⟨x0, hx⟩ : ∃ x, ld[0]? = some x := ⟨_, List.getElem?_eq_getElem hne⟩
  obtain ⟨b, o, c, rfl, hb, _, _⟩ := s.at hx rfl
  refine ⟨b, o, c, rfl, hb, fun h' xx i x hi => ?_⟩
  obtain ⟨b', o', c', e, _, _, hr⟩ := (s.ext xx).at hi rfl
  cases e
  have := hr 0 _ rfl
  rwa [Nat.add_zero] at this
theorem of1_ev (c : Nat) (hc : c < 16) (v : Value) (h : Heap) (hs : SL (intE .i64) 1 h v [(c : Int)]) : EF Try.prog O0 6 [v] h = some (.int .u16 ((2 ^ c : Nat) : Int), h) := by
  have : WPo (EF Try.prog O0 6 [v] h) fun q => q = (.int .u16 ((2 ^ c : Nat) : Int), h) := by
    rw [EF_body (O := O0) (by kernel_rfl) Try.func6 rfl (rs := [.tmp 2]) rfl (bad := []) (by kernel_rfl) _ _ (m := 24) rfl]
    obtain ⟨b, o, cc, rfl, hb, hr⟩ := hs.acc (by simp)
    have r0 := hr h (Ext.refl h) 0 _ rfl
    rw [Nat.zero_mul, Nat.add_zero] at r0
    have d0 : decide ((0 : Int) ≤ (c : Int)) = true := decide_eq_true (by omega)
    have d1 : decide ((c : Int) < 16) = true := decide_eq_true (by omega)
    have hp : 2 ^ c < 65536 := (Nat.pow_lt_pow_right (by decide) hc : 2 ^ c < 2 ^ 16)
    have e1 : ∀ (P : Program) (t : TypeId) (x y : Operand), evBin P .shl t x y (.int .u16 1) (.int .i64 (c : Int)) = some (.int .u16 ((2 ^ c : Nat) : Int)) := fun P t x y => by
      rw [bin_shl64 P t x y (by show (0 : Int) ≤ c ∧ (c : Int) ≤ ((16 : Nat) : Int); omega), toNat_nat, Int.one_mul, show ((2 : Int) ^ c) = ((2 ^ c : Nat) : Int) by rw [Int.natCast_pow]; rfl, wrapF_nat rfl hp]
    have e2 : ∀ (P : Program) (t : TypeId) (x y : Operand), evBin P .or t x y (.int .u16 0) (.int .u16 ((2 ^ c : Nat) : Int)) = some (.int .u16 ((2 ^ c : Nat) : Int)) := fun P t x y => by
      have := bin_orN P t x y (k := .u16) (n := 0) (m := 2 ^ c) rfl (by decide) hp
      rw [Nat.zero_or] at this
      exact this
    simp (maxSteps := 1000000) (disch := first | decide | omega | (simp only [go_sem]; first | done | omega)) only [go_sem, Int.reduceToNat, Nat.reduceMul, Nat.reduceAdd, Nat.reduceSub, ↓EU_region, ↓EU_draw]
    repeat refine WPo_ob ?_
    refine (LP_rule (fun m st => ∃ (tm : Fr), st = ⟨tm, h, []⟩ ∧ ((m = 1 ∧ Fr.get tm 3 = .int .u16 0 ∧ Fr.get tm 6 = .slice (some ⟨b, o, none⟩) 1 cc ∧ Fr.get tm 7 = .int .i64 1 ∧ Fr.get tm 8 = .int .i64 0) ∨ (m = 0 ∧ Fr.get tm 3 = .int .u16 ((2 ^ c : Nat) : Int) ∧ Fr.get tm 7 = .int .i64 1 ∧ Fr.get tm 8 = .int .i64 1)))
      (fun q => ∃ (tm : Fr), q.2 = ⟨tm, h, []⟩ ∧ q.1 = .exit 0 ∧ Fr.get tm 3 = .int .u16 ((2 ^ c : Nat) : Int)) ?_ 1 _ _ ?_ ?_).mono ?_
    · rintro m _ ⟨tm, rfl, ⟨rfl, g3, g6, g7, g8⟩ | ⟨rfl, g3, g7, g8⟩⟩
      · simp (maxSteps := 1000000) (disch := first | decide | omega | (simp only [go_sem]; first | done | omega)) only [go_sem, Int.reduceToNat, Nat.reduceMul, Nat.reduceAdd, Nat.reduceSub, ↓EU_region, ↓EU_draw, dec_t, dec_f, g3, g6, g7, g8, r0, d0, d1, e1, e2]
        exact ⟨0, by omega, _, rfl, .inr ⟨rfl, by simp (maxSteps := 1000000) (disch := first | decide | omega | (simp only [go_sem]; first | done | omega)) only [go_sem, Int.reduceToNat, Nat.reduceMul, Nat.reduceAdd, Nat.reduceSub, ↓EU_region, ↓EU_draw], by simp (maxSteps := 1000000) (disch := first | decide | omega | (simp only [go_sem]; first | done | omega)) only [go_sem, Int.reduceToNat, Nat.reduceMul, Nat.reduceAdd, Nat.reduceSub, ↓EU_region, ↓EU_draw, g7], by simp (maxSteps := 1000000) (disch := first | decide | omega | (simp only [go_sem]; first | done | omega)) only [go_sem, Int.reduceToNat, Nat.reduceMul, Nat.reduceAdd, Nat.reduceSub, ↓EU_region, ↓EU_draw]; rfl⟩⟩
      · simp (maxSteps := 1000000) (disch := first | decide | omega | (simp only [go_sem]; first | done | omega)) only [go_sem, Int.reduceToNat, Nat.reduceMul, Nat.reduceAdd, Nat.reduceSub, ↓EU_region, ↓EU_draw, dec_t, dec_f, g3, g7, g8]
        exact ⟨_, rfl, trivial, by simp (maxSteps := 1000000) (disch := first | decide | omega | (simp only [go_sem]; first | done | omega)) only [go_sem, Int.reduceToNat, Nat.reduceMul, Nat.reduceAdd, Nat.reduceSub, ↓EU_region, ↓EU_draw, g3]⟩
    · exact ⟨_, rfl, .inl ⟨rfl, by simp (maxSteps := 1000000) (disch := first | decide | omega | (simp only [go_sem]; first | done | omega)) only [go_sem, Int.reduceToNat, Nat.reduceMul, Nat.reduceAdd, Nat.reduceSub, ↓EU_region, ↓EU_draw], by simp (maxSteps := 1000000) (disch := first | decide | omega | (simp only [go_sem]; first | done | omega)) only [go_sem, Int.reduceToNat, Nat.reduceMul, Nat.reduceAdd, Nat.reduceSub, ↓EU_region, ↓EU_draw], by simp (maxSteps := 1000000) (disch := first | decide | omega | (simp only [go_sem]; first | done | omega)) only [go_sem, Int.reduceToNat, Nat.reduceMul, Nat.reduceAdd, Nat.reduceSub, ↓EU_region, ↓EU_draw]; rfl, by simp (maxSteps := 1000000) (disch := first | decide | omega | (simp only [go_sem]; first | done | omega)) only [go_sem, Int.reduceToNat, Nat.reduceMul, Nat.reduceAdd, Nat.reduceSub, ↓EU_region, ↓EU_draw]⟩⟩
    · decide
    · rintro ⟨_, _⟩ ⟨tm, rfl, rfl, g3⟩
      simp (maxSteps := 1000000) (disch := first | decide | omega | (simp only [go_sem]; first | done | omega)) only [go_sem, Int.reduceToNat, Nat.reduceMul, Nat.reduceAdd, Nat.reduceSub, ↓EU_region, ↓EU_draw, g3]
  obtain ⟨q, e, rfl⟩ := this
  exact e
/-- the greatest of the first -/
noncomputable def mxN (ld : List Int) : Nat → Int
  | 0 => ld.getD 0 0
  | i + 1 => if ld.getD i 0 > mxN ld i then ld.getD i 0 else mxN ld i
theorem mxN1 (ld : List Int) : mxN ld 1 = ld.getD 0 0 := by
  show (if ld.getD 0 0 > ld.getD 0 0 then _ else ld.getD 0 0) = _
  rw [if_neg (by omega)]
theorem mxN_ge (ld : List Int) : ∀ n i, i < n → ld.getD i 0 ≤ mxN ld n
  | n + 1, i, h => by
    unfold mxN
    by_cases q : i = n
    · subst q; split <;> omega
    · have := mxN_ge ld n i (by omega)
      split <;> omega
theorem mxN_mem (ld : List Int) : ∀ n, 0 < n → ∃ i, i < n ∧ ld.getD i 0 = mxN ld n
  | 1, _ => ⟨0, by omega, (mxN1 ld).symm⟩
  | n + 2, _ => by
    obtain ⟨i, hi, e⟩ := mxN_mem ld (n + 1) (by omega)
    unfold mxN
    by_cases q : ld.getD (n + 1) 0 > mxN ld (n + 1)
    · rw [if_pos q]; exact ⟨n + 1, by omega, rfl⟩
    · rw [if_neg q]; exact ⟨i, by omega, e⟩
theorem getD_of {α : Type} {l : List α} {i : Nat} {x d : α} (h : l[i]? = some x) : l.getD i d = x := by rw [List.getD_eq_getElem?_getD, h]; rfl
theorem max_ev (ld : List Int) (v : Value) (h : Heap) (hs : SL (intE .i64) 1 h v ld) (h0 : 0 < ld.length) (hl : ld.length < 900000) : EF Try.prog O0 15 [v] h = some (.int .i64 (mxN ld ld.length), h) := by
  have : WPo (EF Try.prog O0 15 [v] h) fun q => q = (.int .i64 (mxN ld ld.length), h) := by
    rw [EF_body (O := O0) (by kernel_rfl) Try.func15 rfl (rs := [.tmp 2]) rfl (bad := []) (by kernel_rfl) _ _ (m := 25) rfl]
    obtain ⟨b, o, cc, rfl, hb, hr⟩ := hs.acc h0
    obtain ⟨x0, hx0⟩ : ∃ x, ld[0]? = some x := ⟨_, List.getElem?_eq_getElem h0⟩
    have r0 := hr h (Ext.refl h) 0 _ hx0
    rw [Nat.zero_mul, Nat.add_zero] at r0
    have d : decide ((ld.length : Int) < 1) = false := decide_eq_false (by omega)
    simp (maxSteps := 1000000) (disch := first | decide | omega | (simp only [go_sem]; first | done | omega)) only [go_sem, Int.reduceToNat, Nat.reduceMul, Nat.reduceAdd, Nat.reduceSub, ↓EU_region, ↓EU_draw, d, r0]
    repeat refine WPo_ob ?_
    refine (LP_rule (fun m st => ∃ (i : Nat) (tm : Fr), st = ⟨tm, h, []⟩ ∧ m = ld.length - i ∧ 1 ≤ i ∧ i ≤ ld.length ∧ Fr.get tm 0 = .slice (some { block := b, off := o }) ld.length cc ∧ Fr.get tm 3 = .int .i64 (mxN ld i) ∧ Fr.get tm 4 = .int .i64 (i : Int))
      (fun q => ∃ (tm : Fr), q.2 = ⟨tm, h, []⟩ ∧ q.1 = .exit 0 ∧ Fr.get tm 3 = .int .i64 (mxN ld ld.length)) ?_ (ld.length - 1) _ _ ?_ ?_).mono ?_
    · rintro m _ ⟨i, tm, rfl, rfl, h1, hi, g0, g3, g4⟩
      by_cases q : i < ld.length
      · have d1 : decide ((i : Int) < ld.length) = true := decide_eq_true (by omega)
        obtain ⟨x, hx⟩ : ∃ x, ld[i]? = some x := ⟨_, List.getElem?_eq_getElem q⟩
        have hri := hr h (Ext.refl h) i _ hx
        have hwi : wrapF .i64 ((i : Int) + 1) = ((i + 1 : Nat) : Int) := by rw [wrap64 (by omega)]; rfl
        simp (maxSteps := 1000000) (disch := first | decide | omega | (simp only [go_sem]; first | done | omega)) only [go_sem, Int.reduceToNat, Nat.reduceMul, Nat.reduceAdd, Nat.reduceSub, ↓EU_region, ↓EU_draw, g0, g3, g4, d1, hri, hwi]
        exact ⟨ld.length - (i + 1), by omega, i + 1, _, rfl, rfl, by omega, by omega, by simp (maxSteps := 1000000) (disch := first | decide | omega | (simp only [go_sem]; first | done | omega)) only [go_sem, Int.reduceToNat, Nat.reduceMul, Nat.reduceAdd, Nat.reduceSub, ↓EU_region, ↓EU_draw, g0], by simp (maxSteps := 1000000) (disch := first | decide | omega | (simp only [go_sem]; first | done | omega)) only [go_sem, Int.reduceToNat, Nat.reduceMul, Nat.reduceAdd, Nat.reduceSub, ↓EU_region, ↓EU_draw]; exact congrArg (Value.int .i64) (by show _ = (if ld.getD i 0 > mxN ld i then ld.getD i 0 else mxN ld i); rw [getD_of hx]), by simp (maxSteps := 1000000) (disch := first | decide | omega | (simp only [go_sem]; first | done | omega)) only [go_sem, Int.reduceToNat, Nat.reduceMul, Nat.reduceAdd, Nat.reduceSub, ↓EU_region, ↓EU_draw]⟩
      · have d1 : decide ((i : Int) < ld.length) = false := decide_eq_false (by omega)
        obtain rfl : i = ld.length := by omega
        simp (maxSteps := 1000000) (disch := first | decide | omega | (simp only [go_sem]; first | done | omega)) only [go_sem, Int.reduceToNat, Nat.reduceMul, Nat.reduceAdd, Nat.reduceSub, ↓EU_region, ↓EU_draw, g0, g4, d1]
        exact ⟨_, rfl, trivial, by simp (maxSteps := 1000000) (disch := first | decide | omega | (simp only [go_sem]; first | done | omega)) only [go_sem, Int.reduceToNat, Nat.reduceMul, Nat.reduceAdd, Nat.reduceSub, ↓EU_region, ↓EU_draw, g3]⟩
    · exact ⟨1, _, rfl, rfl, by omega, by omega, by simp (maxSteps := 1000000) (disch := first | decide | omega | (simp only [go_sem]; first | done | omega)) only [go_sem, Int.reduceToNat, Nat.reduceMul, Nat.reduceAdd, Nat.reduceSub, ↓EU_region, ↓EU_draw], by simp (maxSteps := 1000000) (disch := first | decide | omega | (simp only [go_sem]; first | done | omega)) only [go_sem, Int.reduceToNat, Nat.reduceMul, Nat.reduceAdd, Nat.reduceSub, ↓EU_region, ↓EU_draw]; rw [mxN1, getD_of hx0], by simp (maxSteps := 1000000) (disch := first | decide | omega | (simp only [go_sem]; first | done | omega)) only [go_sem, Int.reduceToNat, Nat.reduceMul, Nat.reduceAdd, Nat.reduceSub, ↓EU_region, ↓EU_draw]; rfl⟩
    · omega
    · rintro ⟨_, _⟩ ⟨tm, rfl, rfl, g3⟩
      simp (maxSteps := 1000000) (disch := first | decide | omega | (simp only [go_sem]; first | done | omega)) only [go_sem, Int.reduceToNat, Nat.reduceMul, Nat.reduceAdd, Nat.reduceSub, ↓EU_region, ↓EU_draw, g3]
  obtain ⟨q, e, rfl⟩ := this
  exact e
/-- the place of the first -/
theorem index_ev (ld : List Int) (k : Nat) (y : Int) (v : Value) (h : Heap) (hs : SL (intE .i64) 1 h v ld) (hk : ld[k]? = some y) (hn : ∀ j, j < k → ld.getD j 0 ≠ y) (hl : ld.length < 900000) : EF Try.prog O0 14 [v, .int .i64 y] h = some (.int .i64 (k : Int), h) := by
  have : WPo (EF Try.prog O0 14 [v, .int .i64 y] h) fun q => q = (.int .i64 (k : Int), h) := by
    have hkl := (List.getElem?_eq_some_iff.1 hk).1
    rw [EF_body (O := O0) (by kernel_rfl) Try.func14 rfl (rs := [.tmp 4]) rfl (bad := []) (by kernel_rfl) _ _ (m := 19) rfl]
    obtain ⟨b, o, cc, rfl, hb, hr⟩ := hs.acc (by omega)
    simp (maxSteps := 1000000) (disch := first | decide | omega | (simp only [go_sem]; first | done | omega)) only [go_sem, Int.reduceToNat, Nat.reduceMul, Nat.reduceAdd, Nat.reduceSub, ↓EU_region, ↓EU_draw]
    repeat refine WPo_ob ?_
    refine (LP_rule (fun m st => ∃ (i : Nat) (tm : Fr), st = ⟨tm, h, []⟩ ∧ m = ld.length - i ∧ i ≤ k ∧ Fr.get tm 0 = .slice (some { block := b, off := o }) ld.length cc ∧ Fr.get tm 1 = .int .i64 y ∧ Fr.get tm 7 = .int .i64 ld.length ∧ Fr.get tm 8 = .int .i64 (i : Int))
      (fun q => ∃ (tm : Fr), q.2 = ⟨tm, h, []⟩ ∧ q.1 = .ret ∧ Fr.get tm 4 = .int .i64 (k : Int)) ?_ ld.length _ _ ?_ ?_).mono ?_
    · rintro m _ ⟨i, tm, rfl, rfl, hi, g0, g1, g7, g8⟩
      have d1 : decide ((i : Int) < ld.length) = true := decide_eq_true (by omega)
      obtain ⟨x, hx⟩ : ∃ x, ld[i]? = some x := ⟨_, List.getElem?_eq_getElem (by omega)⟩
      have hri := hr h (Ext.refl h) i _ hx
      have hwi : wrapF .i64 ((i : Int) + 1) = ((i + 1 : Nat) : Int) := by rw [wrap64 (by omega)]; rfl
      by_cases q : i = k
      · subst q
        rw [hk] at hx
        cases hx
        have d2 : decide (y = y) = true := decide_eq_true rfl
        simp (maxSteps := 1000000) (disch := first | decide | omega | (simp only [go_sem]; first | done | omega)) only [go_sem, Int.reduceToNat, Nat.reduceMul, Nat.reduceAdd, Nat.reduceSub, ↓EU_region, ↓EU_draw, g0, g1, g7, g8, d1, hri, d2]
        exact ⟨_, rfl, trivial, by simp (maxSteps := 1000000) (disch := first | decide | omega | (simp only [go_sem]; first | done | omega)) only [go_sem, Int.reduceToNat, Nat.reduceMul, Nat.reduceAdd, Nat.reduceSub, ↓EU_region, ↓EU_draw]⟩
      · have d2 : decide (y = x) = false := decide_eq_false fun e => hn i (by omega) (by rw [getD_of hx, e])
        simp (maxSteps := 1000000) (disch := first | decide | omega | (simp only [go_sem]; first | done | omega)) only [go_sem, Int.reduceToNat, Nat.reduceMul, Nat.reduceAdd, Nat.reduceSub, ↓EU_region, ↓EU_draw, g0, g1, g7, g8, d1, hri, d2, hwi]
        exact ⟨ld.length - (i + 1), by omega, i + 1, _, rfl, rfl, by omega, by simp (maxSteps := 1000000) (disch := first | decide | omega | (simp only [go_sem]; first | done | omega)) only [go_sem, Int.reduceToNat, Nat.reduceMul, Nat.reduceAdd, Nat.reduceSub, ↓EU_region, ↓EU_draw, g0], by simp (maxSteps := 1000000) (disch := first | decide | omega | (simp only [go_sem]; first | done | omega)) only [go_sem, Int.reduceToNat, Nat.reduceMul, Nat.reduceAdd, Nat.reduceSub, ↓EU_region, ↓EU_draw, g1], by simp (maxSteps := 1000000) (disch := first | decide | omega | (simp only [go_sem]; first | done | omega)) only [go_sem, Int.reduceToNat, Nat.reduceMul, Nat.reduceAdd, Nat.reduceSub, ↓EU_region, ↓EU_draw, g7], by simp (maxSteps := 1000000) (disch := first | decide | omega | (simp only [go_sem]; first | done | omega)) only [go_sem, Int.reduceToNat, Nat.reduceMul, Nat.reduceAdd, Nat.reduceSub, ↓EU_region, ↓EU_draw]⟩
    · exact ⟨0, _, rfl, rfl, by omega, by simp (maxSteps := 1000000) (disch := first | decide | omega | (simp only [go_sem]; first | done | omega)) only [go_sem, Int.reduceToNat, Nat.reduceMul, Nat.reduceAdd, Nat.reduceSub, ↓EU_region, ↓EU_draw], by simp (maxSteps := 1000000) (disch := first | decide | omega | (simp only [go_sem]; first | done | omega)) only [go_sem, Int.reduceToNat, Nat.reduceMul, Nat.reduceAdd, Nat.reduceSub, ↓EU_region, ↓EU_draw], by simp (maxSteps := 1000000) (disch := first | decide | omega | (simp only [go_sem]; first | done | omega)) only [go_sem, Int.reduceToNat, Nat.reduceMul, Nat.reduceAdd, Nat.reduceSub, ↓EU_region, ↓EU_draw], by simp (maxSteps := 1000000) (disch := first | decide | omega | (simp only [go_sem]; first | done | omega)) only [go_sem, Int.reduceToNat, Nat.reduceMul, Nat.reduceAdd, Nat.reduceSub, ↓EU_region, ↓EU_draw]; rfl⟩
    · omega
    · rintro ⟨_, _⟩ ⟨tm, rfl, rfl, g4⟩
      simp (maxSteps := 1000000) (disch := first | decide | omega | (simp only [go_sem]; first | done | omega)) only [go_sem, Int.reduceToNat, Nat.reduceMul, Nat.reduceAdd, Nat.reduceSub, ↓EU_region, ↓EU_draw, g4]
  obtain ⟨q, e, rfl⟩ := this
  exact e
/-- where most is -/
noncomputable def topN (ld : List Int) : Nat := ld.findIdx fun x => decide (x = mxN ld ld.length)
theorem topN_at (ld : List Int) (h : 0 < ld.length) : ld[topN ld]? = some (mxN ld ld.length) ∧ ∀ j, j < topN ld → ld.getD j 0 ≠ mxN ld ld.length := by
  obtain ⟨i, hi, e⟩ := mxN_mem ld ld.length h
  have hx : ld[i] = mxN ld ld.length := by rw [← e]; simp [hi]
  have hlt : topN ld < ld.length := List.findIdx_lt_length_of_exists ⟨ld[i], List.getElem_mem hi, decide_eq_true hx⟩
  have := List.findIdx_getElem (w := hlt)
  refine ⟨by rw [List.getElem?_eq_getElem hlt]; exact congrArg some (of_decide_eq_true this), fun j hj => ?_⟩
  have h2 := List.not_of_lt_findIdx hj
  rw [getD_of (List.getElem?_eq_getElem (by omega))]
  exact of_decide_eq_false (by simpa using h2)
theorem most_ev (ld : List Int) (v : Value) (h : Heap) (hs : SL (intE .i64) 1 h v ld) (h0 : 0 < ld.length) (hl : ld.length < 900000) : EF Try.prog O0 8 [v] h = some (.tuple ⟨[.int .i64 (topN ld : Int), .bool true]⟩, h) := by
  have : WPo (EF Try.prog O0 8 [v] h) fun q => q = (.tuple ⟨[.int .i64 (topN ld : Int), .bool true]⟩, h) := by
    have e1 := max_ev ld v h hs h0 hl
    obtain ⟨t1, t2⟩ := topN_at ld h0
    have e2 := index_ev ld (topN ld) _ v h hs t1 t2 hl
    obtain ⟨a, c, hv⟩ := hs.val
    subst hv
    have d : decide ((ld.length : Int) = 0) = false := decide_eq_false (by omega)
    rw [EF_body (O := O0) (by kernel_rfl) Try.func8 rfl (rs := [.tmp 2, .tmp 3]) rfl (bad := []) (by kernel_rfl) _ _ (m := 11) rfl]
    simp (maxSteps := 1000000) (disch := first | decide | omega | (simp only [go_sem]; first | done | omega)) only [go_sem, Int.reduceToNat, Nat.reduceMul, Nat.reduceAdd, Nat.reduceSub, ↓EU_region, ↓EU_draw, d, e1, e2]
  obtain ⟨q, e, rfl⟩ := this
  exact e
end Go.Proofs.Ytnopeboieicipaa.EV
