/- MaskTexts, plainly. No condition. -/
import Derived.Test.YtpgekabdemmlfaaDoorMask2
namespace Go.Proofs.YtpgekabdemmlfaaDoor.EV
open Go Go.Proofs
set_option linter.unusedVariables false
set_option linter.unusedSimpArgs false
set_option maxRecDepth 100000
set_option pp.deepTerms false
set_option pp.deepTerms.threshold 20
theorem join_inj : ∀ (l m : List Nat), l ≠ [] → m ≠ [] → (∀ x ∈ l, x < 16) → (∀ x ∈ m, x < 16) → Lib.join (l.map fun (n : Nat) => itoaB (n : Int)) [44] = Lib.join (m.map fun (n : Nat) => itoaB (n : Int)) [44] → l = m := by
  have r16 : ∀ {n : Nat}, n < 16 → i64R (n : Int) := fun h => ⟨by omega, by omega⟩
  have tail : ∀ l m : List Nat, (∀ x ∈ l, x < 16) → (∀ x ∈ m, x < 16) → Lib.joinTail [44] (l.map fun (n : Nat) => itoaB (n : Int)) = Lib.joinTail [44] (m.map fun (n : Nat) => itoaB (n : Int)) → l = m := by
    intro l
    induction l with
    | nil =>
      intro m _ _ h
      cases m with
      | nil => rfl
      | cons y m => simp [Lib.joinTail] at h
    | cons x l ih =>
      intro m hl hm h
      cases m with
      | nil => simp [Lib.joinTail] at h
      | cons y m =>
        have e : ∀ (z : Nat) (r : List Nat), Lib.joinTail [44] ((z :: r).map fun (n : Nat) => itoaB (n : Int)) = 44 :: (itoaB (z : Int) ++ Lib.joinTail [44] (r.map fun (n : Nat) => itoaB (n : Int))) := fun z r => by simp [Lib.joinTail]
        rw [e, e] at h
        have hd : ∀ r : List Nat, ∀ b t, Lib.joinTail [44] (r.map fun (n : Nat) => itoaB (n : Int)) = b :: t → digB b = false := fun r b t q => by
          cases r with
          | nil => simp [Lib.joinTail] at q
          | cons z r => rw [e] at q; rw [← (List.cons.inj q).1]; decide
        obtain ⟨e1, e2⟩ := num_split (r16 (hl x (List.mem_cons_self ..))) (r16 (hm y (List.mem_cons_self ..))) (hd l) (hd m) (List.cons.inj h).2
        rw [ih m (fun z hz => hl z (List.mem_cons_of_mem _ hz)) (fun z hz => hm z (List.mem_cons_of_mem _ hz)) e2]
        congr 1
        omega
  intro l m hl0 hm0 hl hm h
  cases l with
  | nil => exact (hl0 rfl).elim
  | cons x l =>
    cases m with
    | nil => exact (hm0 rfl).elim
    | cons y m =>
      simp only [List.map_cons, Lib.join_cons] at h
      have e : ∀ (z : Nat) (r : List Nat), Lib.joinTail [44] ((z :: r).map fun (n : Nat) => itoaB (n : Int)) = 44 :: (itoaB (z : Int) ++ Lib.joinTail [44] (r.map fun (n : Nat) => itoaB (n : Int))) := fun z r => by simp [Lib.joinTail]
      have hd : ∀ r : List Nat, ∀ b t, Lib.joinTail [44] (r.map fun (n : Nat) => itoaB (n : Int)) = b :: t → digB b = false := fun r b t q => by
        cases r with
        | nil => simp [Lib.joinTail] at q
        | cons z r => rw [e] at q; rw [← (List.cons.inj q).1]; decide
      obtain ⟨e1, e2⟩ := num_split (r16 (hl x (List.mem_cons_self ..))) (r16 (hm y (List.mem_cons_self ..))) (hd l) (hd m) h
      rw [tail l m (fun z hz => hl z (List.mem_cons_of_mem _ hz)) (fun z hz => hm z (List.mem_cons_of_mem _ hz)) e2]
      congr 1
      omega
theorem cores_lt (M i : Nat) : ∀ x ∈ cores M i, x < i := fun x hx => by
  have := (List.mem_filter.1 hx).1
  rwa [List.mem_range] at this
theorem cores_mem {M i x : Nat} : x ∈ cores M i ↔ x < i ∧ hasN M x = true := by
  unfold cores
  rw [List.mem_filter, List.mem_range]
theorem cores_inj {a b : Nat} (ha : a < 65536) (hb : b < 65536) (h : cores a 16 = cores b 16) : a = b := by
  apply Nat.eq_of_testBit_eq
  intro i
  by_cases q : i < 16
  · have h1 : i ∈ cores a 16 ↔ i ∈ cores b 16 := by rw [h]
    rw [cores_mem, cores_mem] at h1
    show hasN a i = hasN b i
    rw [Bool.eq_iff_iff]
    exact ⟨fun e => (h1.1 ⟨q, e⟩).2, fun e => (h1.2 ⟨q, e⟩).2⟩
  · have hp : 2 ^ 16 ≤ 2 ^ i := Nat.pow_le_pow_right (by decide) (by omega)
    rw [Nat.testBit_lt_two_pow (by omega), Nat.testBit_lt_two_pow (by omega)]
theorem textM_inj {a b : Nat} (ha : a < 65536) (hb : b < 65536) : textM a = textM b ↔ a = b := by
  constructor
  · intro h
    unfold textM at h
    have emp : ∀ M, coresT M 16 = [] ↔ cores M 16 = [] := fun M => by unfold coresT; rw [List.map_eq_nil_iff]
    have no : ∀ M, cores M 16 ≠ [] → [45] ≠ Lib.join (coresT M 16) [44] := fun M hM e => by
      cases hc : cores M 16 with
      | nil => exact hM hc
      | cons x r =>
        unfold coresT at e
        rw [hc] at e
        simp only [List.map_cons, Lib.join_cons] at e
        have hx := cores_lt M 16 x (by rw [hc]; exact List.mem_cons_self ..)
        rw [itoaB_eq (by omega) (by omega)] at e
        unfold Lib.itoa at e
        rw [if_neg (by omega)] at e
        have hl := (dec_len 19 (x : Int).toNat (by omega)).1
        cases hd : Lib.decDigits (x : Int).toNat with
        | nil => rw [hd] at hl; simp at hl
        | cons b t =>
          rw [hd] at e
          have := dec_dig (x : Int).toNat b (by rw [hd]; exact List.mem_cons_self ..)
          rw [← (List.cons.inj e).1] at this
          exact absurd this.1 (by decide)
    by_cases h1 : cores a 16 = [] <;> by_cases h2 : cores b 16 = []
    · exact cores_inj ha hb (h1.trans h2.symm)
    · rw [if_pos ((emp a).2 h1), if_neg (fun e => h2 ((emp b).1 e))] at h
      exact (no b h2 h).elim
    · rw [if_neg (fun e => h1 ((emp a).1 e)), if_pos ((emp b).2 h2)] at h
      exact (no a h1 h.symm).elim
    · rw [if_neg (fun e => h1 ((emp a).1 e)), if_neg (fun e => h2 ((emp b).1 e))] at h
      exact cores_inj ha hb (join_inj _ _ h1 h2 (cores_lt a 16) (cores_lt b 16) h)
  · rintro rfl; rfl
theorem wf_u16 {n : Int} (h : (Lit.int .u16 n).wf = true) : 0 ≤ n ∧ n < 65536 := by
  have : 0 ≤ n ∧ n ≤ 65535 := by simpa [Lit.wf, IntKind.min, IntKind.max, IntKind.signed, IntKind.bits] using h
  omega
theorem law_MaskTexts (h : Heap) (a : Int) (wa : (Lit.int .u16 a).wf = true) (b : Int) (wb : (Lit.int .u16 b).wf = true) :
    WPo (EF Tryd.prog O0 3 [.int .u16 a, .int .u16 b] h) fun q => q.1 = .bool true := by
  rw [EF_body (O := O0) (by kernel_rfl) Tryd.func3 rfl (rs := [.tmp 4]) rfl (bad := []) (by kernel_rfl) _ _ (m := 16) rfl]
  obtain ⟨a0, a1⟩ := wf_u16 wa
  obtain ⟨b0, b1⟩ := wf_u16 wb
  obtain ⟨n, rfl⟩ := Int.eq_ofNat_of_zero_le a0
  obtain ⟨m, rfl⟩ := Int.eq_ofNat_of_zero_le b0
  simp (maxSteps := 1000000) (disch := first | decide | omega | (simp only [go_sem]; first | done | omega)) only [go_sem, Int.reduceToNat, Nat.reduceMul, Nat.reduceAdd, Nat.reduceSub, ↓EU_region, ↓EU_draw, awake_ev]
  repeat refine WPo_ob ?_
  refine (mtext_ev n (by omega) h).bind fun h1 x1 => ?_
  simp (maxSteps := 1000000) (disch := first | decide | omega | (simp only [go_sem]; first | done | omega)) only [go_sem, Int.reduceToNat, Nat.reduceMul, Nat.reduceAdd, Nat.reduceSub, ↓EU_region, ↓EU_draw]
  repeat refine WPo_ob ?_
  refine (mtext_ev m (by omega) h1).bind fun h2 x2 => ?_
  have e1 : decide (textM n = textM m) = decide ((n : Int) = m) := by
    refine decide_eq_decide.2 ((textM_inj (by omega) (by omega)).trans ?_)
    omega
  have hbb : ∀ b : Bool, (b == b) = true := fun b => by cases b <;> rfl
  simp (maxSteps := 1000000) (disch := first | decide | omega | (simp only [go_sem]; first | done | omega)) only [go_sem, Int.reduceToNat, Nat.reduceMul, Nat.reduceAdd, Nat.reduceSub, ↓EU_region, ↓EU_draw, e1, hbb]
end Go.Proofs.YtpgekabdemmlfaaDoor.EV
