/- Contracts: masks: Has, Of one, All. No condition. -/
import Derived.Test.YtpgekabdemmlfaaDoorO0
import Derived.Test.YtpgekabdemmlfaaDoorSy8
import Derived.Test.YtpgekabdemmlfaaDoorQuo
namespace Go.Proofs.YtpgekabdemmlfaaDoor.EV
open Go Go.Proofs
set_option linter.unusedVariables false
set_option linter.unusedSimpArgs false
set_option maxRecDepth 100000
set_option pp.deepTerms false
set_option pp.deepTerms.threshold 20
noncomputable def hasN (M c : Nat) : Bool := M.testBit c
noncomputable def hasI (M : Nat) (c : Int) : Bool := decide (0 ≤ c) && (decide (c < 16) && hasN M c.toNat)
theorem has_bit (M c : Nat) : decide ((((M >>> c) &&& 1 : Nat) : Int) = 1) = hasN M c := by
  unfold hasN Nat.testBit
  rw [Nat.and_comm, Nat.one_and_eq_mod_two]
  rcases Nat.mod_two_eq_zero_or_one (M >>> c) with h | h <;> rw [h] <;> rfl
noncomputable def anN (a b : Nat) : Nat := (BitVec.ofNat 16 a &&& ~~~ BitVec.ofNat 16 b).toNat
theorem anN_lt (a b : Nat) : anN a b < 65536 := (BitVec.ofNat 16 a &&& ~~~ BitVec.ofNat 16 b).isLt
theorem anN_has (a c d : Nat) (hc : c < 16) (hd : d < 16) : hasN (anN a (2 ^ c)) d = (hasN a d && !decide (d = c)) := by
  unfold hasN anN
  rw [← BitVec.getLsbD, BitVec.getLsbD_and, BitVec.getLsbD_not, BitVec.getLsbD_ofNat, BitVec.getLsbD_ofNat, decide_eq_true hd, Bool.true_and, Bool.true_and, Bool.true_and, Nat.testBit_two_pow]
  simp [eq_comm]
theorem bin_anN (P : Program) (t : TypeId) (x y : Operand) (a b : Nat) : evBin P .andNot t x y (.int .u16 (a : Int)) (.int .u16 (b : Int)) = some (.int .u16 (anN a b : Int)) := by
  have h1 : binOp .andNot t (.int .u16 (a : Int)) (.int .u16 (b : Int)) = pure (.int .u16 (anN a b : Int)) := by
    unfold binOp
    simp only [ne_eq, not_true_eq_false, if_false]
    unfold Op.intBits
    show pure (Value.int .u16 (IntKind.u16.wrap ((BitVec.ofInt 16 (a : Int) &&& ~~~ BitVec.ofInt 16 (b : Int)).toNat : Nat))) = _
    rw [BitVec.ofInt_natCast, BitVec.ofInt_natCast, ← wrapF_eq]
    have := wrapF_nat (k := .u16) rfl (anN_lt a b)
    unfold anN at this ⊢
    rw [this]
  have hf : fastBin .andNot (.int .u16 (a : Int)) (.int .u16 (b : Int)) = none := rfl
  unfold evBin
  rw [hf]
  show orE none (cnd true (match absPure P (eqGuard .andNot t x y (.int .u16 (a : Int)) (.int .u16 (b : Int)) >>= fun _ => binOp .andNot t (.int .u16 (a : Int)) (.int .u16 (b : Int))) with | some v => cnd (flat1 v) (some v) none | none => none) _) = _
  rw [h1]
  rfl
theorem has_ev (M : Nat) (hM : M < 65536) (c : Int) (h : Heap) : EF Tryd.prog O0 15 [.int .u16 (M : Int), .int .i64 c] h = some (.bool (hasI M c), h) := by
  have : WPo (EF Tryd.prog O0 15 [.int .u16 (M : Int), .int .i64 c] h) fun q => q = (.bool (hasI M c), h) := by
    unfold hasI
    rw [EF_body (O := O0) (by kernel_rfl) Tryd.func15 rfl (rs := [.tmp 4]) rfl (bad := []) (by kernel_rfl) _ _ (m := 18) rfl]
    by_cases q0 : 0 ≤ c
    · have d0 : decide (0 ≤ c) = true := decide_eq_true q0
      by_cases q1 : c < 16
      · have d1 : decide (c < 16) = true := decide_eq_true q1
        obtain ⟨n, rfl⟩ := Int.eq_ofNat_of_zero_le q0
        have e1 : ∀ (P : Program) (t : TypeId) (x y : Operand), evBin P .shr t x y (.int .u16 (M : Int)) (.int .i64 (n : Int)) = some (.int .u16 ((M >>> n : Nat) : Int)) := fun P t x y => bin_shrN P t x y (by show n ≤ 16; omega)
        have e2 : ∀ (P : Program) (t : TypeId) (x y : Operand), evBin P .and t x y (.int .u16 ((M >>> n : Nat) : Int)) (.int .u16 1) = some (.int .u16 (((M >>> n) &&& 1 : Nat) : Int)) := fun P t x y => bin_andN P t x y (m := 1) rfl (Nat.lt_of_le_of_lt (Nat.shiftRight_le M n) hM) (by decide)
        simp (maxSteps := 1000000) (disch := first | decide | omega | (simp only [go_sem]; first | done | omega)) only [go_sem, Int.reduceToNat, Nat.reduceMul, Nat.reduceAdd, Nat.reduceSub, ↓EU_region, ↓EU_draw, d0, d1, e1, e2, has_bit, toNat_nat]
      · have d1 : decide (c < 16) = false := decide_eq_false q1
        simp (maxSteps := 1000000) (disch := first | decide | omega | (simp only [go_sem]; first | done | omega)) only [go_sem, Int.reduceToNat, Nat.reduceMul, Nat.reduceAdd, Nat.reduceSub, ↓EU_region, ↓EU_draw, d0, d1]
    · have d0 : decide (0 ≤ c) = false := decide_eq_false q0
      simp (maxSteps := 1000000) (disch := first | decide | omega | (simp only [go_sem]; first | done | omega)) only [go_sem, Int.reduceToNat, Nat.reduceMul, Nat.reduceAdd, Nat.reduceSub, ↓EU_region, ↓EU_draw, d0]
  obtain ⟨q, e, rfl⟩ := this
  exact e
theorem all_ev (M : Nat) (h : Heap) : EF Tryd.prog O0 20 [.int .u16 (M : Int)] h = some (.func (.func 27) ⟨[]⟩ ⟨[ptr h.next 0]⟩, h.push (.cells [.int .u16 (M : Int)] 0)) := by
  have : WPo (EF Tryd.prog O0 20 [.int .u16 (M : Int)] h) fun q => q = (.func (.func 27) ⟨[]⟩ ⟨[ptr h.next 0]⟩, h.push (.cells [.int .u16 (M : Int)] 0)) := by
    rw [EF_body (O := O0) (by kernel_rfl) Tryd.func20 rfl (rs := [.tmp 2]) rfl (bad := []) (by kernel_rfl) _ _ (m := 4) rfl]
    simp (maxSteps := 1000000) (disch := first | decide | omega | (simp only [go_sem]; first | done | omega)) only [go_sem, Int.reduceToNat, Nat.reduceMul, Nat.reduceAdd, Nat.reduceSub, ↓EU_region, ↓EU_draw]
  obtain ⟨q, e, rfl⟩ := this
  exact e
set_option maxHeartbeats 2000000 in
theorem all1_ev (M : Nat) (hM : M < 65536) (A : Nat) (yv : Value) (I : Nat → Heap → Prop) (D : Heap → Prop) (h0 : Heap)
    (hI : ∀ i h, I i h → h.get A = .cells [.int .u16 (M : Int)] 0) (h00 : I 0 h0)
    (hs : ∀ i h, i < 16 → hasN M i = false → I i h → I (i + 1) h)
    (hy : ∀ i h, i < 16 → hasN M i = true → I i h → WPo (CALLV Tryd.prog O0 h [.int .i64 (i : Int)] yv) fun q => (q.1 = .bool true ∧ I (i + 1) q.2) ∨ (q.1 = .bool false ∧ D q.2)) :
    WPo (EF Tryd.prog O0 27 [yv, ptr A 0] h0) fun q => I 16 q.2 ∨ D q.2 := by
  rw [EF_body (O := O0) (by kernel_rfl) Tryd.func27 rfl (rs := []) rfl (bad := []) (by kernel_rfl) _ _ (m := 17) rfl]
  simp (maxSteps := 1000000) (disch := first | decide | omega | (simp only [go_sem]; first | done | omega)) only [go_sem, Int.reduceToNat, Nat.reduceMul, Nat.reduceAdd, Nat.reduceSub, ↓EU_region, ↓EU_draw]
  repeat refine WPo_ob ?_
  refine (LP_rule (fun m st => ∃ (i : Nat) (tm : Fr) (h' : Heap), st = ⟨tm, h', []⟩ ∧ m = 16 - i ∧ i ≤ 16 ∧ Fr.get tm 0 = yv ∧ Fr.get tm 1 = ptr A 0 ∧ Fr.get tm 4 = .int .i64 (i : Int) ∧ I i h')
    (fun q => ∃ tm h', q.2 = ⟨tm, h', []⟩ ∧ ((q.1 = .exit 0 ∧ I 16 h') ∨ (q.1 = .ret ∧ D h'))) ?_ 16 _ _ ?_ ?_).mono ?_
  · rintro m _ ⟨i, tm, h', rfl, rfl, hi, g0, g1, g4, ii⟩
    have hg := hI i h' ii
    by_cases q : i < 16
    · have d : decide ((i : Int) < 16) = true := decide_eq_true (by omega)
      have d0 : decide ((0 : Int) ≤ i) = true := decide_eq_true (by omega)
      have hwi : wrapF .i64 ((i : Int) + 1) = ((i + 1 : Nat) : Int) := by rw [wrap64 (by omega)]; rfl
      have hh := has_ev M hM (i : Int) h'
      unfold hasI at hh
      rw [d, d0, toNat_nat, Bool.true_and, Bool.true_and] at hh
      cases hb : hasN M i with
      | false =>
        rw [hb] at hh
        simp (maxSteps := 1000000) (disch := first | decide | omega | (simp only [go_sem]; first | done | omega)) only [go_sem, Int.reduceToNat, Nat.reduceMul, Nat.reduceAdd, Nat.reduceSub, ↓EU_region, ↓EU_draw, g0, g1, g4, hg, d, hh, hwi]
        exact ⟨16 - (i + 1), by omega, i + 1, _, h', rfl, rfl, by omega, by simp (maxSteps := 1000000) (disch := first | decide | omega | (simp only [go_sem]; first | done | omega)) only [go_sem, Int.reduceToNat, Nat.reduceMul, Nat.reduceAdd, Nat.reduceSub, ↓EU_region, ↓EU_draw, g0], by simp (maxSteps := 1000000) (disch := first | decide | omega | (simp only [go_sem]; first | done | omega)) only [go_sem, Int.reduceToNat, Nat.reduceMul, Nat.reduceAdd, Nat.reduceSub, ↓EU_region, ↓EU_draw, g1], by simp (maxSteps := 1000000) (disch := first | decide | omega | (simp only [go_sem]; first | done | omega)) only [go_sem, Int.reduceToNat, Nat.reduceMul, Nat.reduceAdd, Nat.reduceSub, ↓EU_region, ↓EU_draw], hs i h' q hb ii⟩
      | true =>
        rw [hb] at hh
        simp (maxSteps := 1000000) (disch := first | decide | omega | (simp only [go_sem]; first | done | omega)) only [go_sem, Int.reduceToNat, Nat.reduceMul, Nat.reduceAdd, Nat.reduceSub, ↓EU_region, ↓EU_draw, g0, g1, g4, hg, d, hh]
        repeat refine WPo_ob ?_
        refine (hy i h' q hb ii).mono ?_
        rintro ⟨v, h1⟩ (⟨e, r⟩ | ⟨e, r⟩)
        · simp only at e r
          subst e
          simp (maxSteps := 1000000) (disch := first | decide | omega | (simp only [go_sem]; first | done | omega)) only [go_sem, Int.reduceToNat, Nat.reduceMul, Nat.reduceAdd, Nat.reduceSub, ↓EU_region, ↓EU_draw, g4, hwi]
          exact ⟨16 - (i + 1), by omega, i + 1, _, h1, rfl, rfl, by omega, by simp (maxSteps := 1000000) (disch := first | decide | omega | (simp only [go_sem]; first | done | omega)) only [go_sem, Int.reduceToNat, Nat.reduceMul, Nat.reduceAdd, Nat.reduceSub, ↓EU_region, ↓EU_draw, g0], by simp (maxSteps := 1000000) (disch := first | decide | omega | (simp only [go_sem]; first | done | omega)) only [go_sem, Int.reduceToNat, Nat.reduceMul, Nat.reduceAdd, Nat.reduceSub, ↓EU_region, ↓EU_draw, g1], by simp (maxSteps := 1000000) (disch := first | decide | omega | (simp only [go_sem]; first | done | omega)) only [go_sem, Int.reduceToNat, Nat.reduceMul, Nat.reduceAdd, Nat.reduceSub, ↓EU_region, ↓EU_draw], r⟩
        · simp only at e r
          subst e
          simp (maxSteps := 1000000) (disch := first | decide | omega | (simp only [go_sem]; first | done | omega)) only [go_sem, Int.reduceToNat, Nat.reduceMul, Nat.reduceAdd, Nat.reduceSub, ↓EU_region, ↓EU_draw]
          exact ⟨_, h1, rfl, .inr ⟨trivial, r⟩⟩
    · have d : decide ((i : Int) < 16) = false := decide_eq_false (by omega)
      obtain rfl : i = 16 := by omega
      simp (maxSteps := 1000000) (disch := first | decide | omega | (simp only [go_sem]; first | done | omega)) only [go_sem, Int.reduceToNat, Nat.reduceMul, Nat.reduceAdd, Nat.reduceSub, ↓EU_region, ↓EU_draw, g4, d]
      exact ⟨_, h', rfl, .inl ⟨trivial, ii⟩⟩
  · exact ⟨0, _, h0, rfl, rfl, by omega, by simp (maxSteps := 1000000) (disch := first | decide | omega | (simp only [go_sem]; first | done | omega)) only [go_sem, Int.reduceToNat, Nat.reduceMul, Nat.reduceAdd, Nat.reduceSub, ↓EU_region, ↓EU_draw], by simp (maxSteps := 1000000) (disch := first | decide | omega | (simp only [go_sem]; first | done | omega)) only [go_sem, Int.reduceToNat, Nat.reduceMul, Nat.reduceAdd, Nat.reduceSub, ↓EU_region, ↓EU_draw], by simp (maxSteps := 1000000) (disch := first | decide | omega | (simp only [go_sem]; first | done | omega)) only [go_sem, Int.reduceToNat, Nat.reduceMul, Nat.reduceAdd, Nat.reduceSub, ↓EU_region, ↓EU_draw]; rfl, h00⟩
  · omega
  · rintro ⟨_, _⟩ ⟨tm, h', rfl, ⟨rfl, r⟩ | ⟨rfl, r⟩⟩
    · simp (maxSteps := 1000000) (disch := first | decide | omega | (simp only [go_sem]; first | done | omega)) only [go_sem, Int.reduceToNat, Nat.reduceMul, Nat.reduceAdd, Nat.reduceSub, ↓EU_region, ↓EU_draw]
      exact .inl r
    · simp (maxSteps := 1000000) (disch := first | decide | omega | (simp only [go_sem]; first | done | omega)) only [go_sem, Int.reduceToNat, Nat.reduceMul, Nat.reduceAdd, Nat.reduceSub, ↓EU_region, ↓EU_draw]
      exact .inr r
end Go.Proofs.YtpgekabdemmlfaaDoor.EV
