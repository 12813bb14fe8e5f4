/- Plain facts on numbers written. No condition. -/
import Derived.Test.YtpgekabdemmlfaaDoorO0
namespace Go.Proofs.YtpgekabdemmlfaaDoor.EV
open Go Go.Proofs
set_option linter.unusedVariables false
set_option linter.unusedSimpArgs false
theorem strOp_add' (a b : List UInt8) (h : a.length + b.length ≤ 9223372036854775807) : Op.stringOp .add ⟨⟨a⟩⟩ ⟨⟨b⟩⟩ = pure (strV (a ++ b)) := by
  unfold Op.stringOp
  show (if ((((⟨⟨a⟩⟩ : ByteArray).size + (⟨⟨b⟩⟩ : ByteArray).size : Nat) : Int) > IntKind.i64.max) then _ else _) = _
  rw [if_neg]
  · have hcat : ((⟨⟨a⟩⟩ : ByteArray) ++ ⟨⟨b⟩⟩) = ⟨⟨a ++ b⟩⟩ := by
      apply ByteArray.ext
      simp
    exact congrArg (fun x => pure (Value.string x)) hcat
  · show ¬ (((a.length + b.length : Nat) : Int) > IntKind.i64.max)
    have : IntKind.i64.max = 9223372036854775807 := by decide
    rw [this]; omega
theorem str_add' (P : Program) (t : TypeId) (x y : Operand) (a b : List UInt8) (h : a.length + b.length ≤ 9223372036854775807) : evBin P .add t x y (strV a) (strV b) = some (strV (a ++ b)) :=
  str_op P .add t x y a b _ rfl (strOp_add' a b h) rfl
noncomputable def i64R (n : Int) : Prop := -9223372036854775808 ≤ n ∧ n ≤ 9223372036854775807
theorem dec_len : ∀ (k u : Nat), u < 10 ^ (k + 1) → 1 ≤ (Lib.decDigits u).length ∧ (Lib.decDigits u).length ≤ k + 1
  | 0, u, h => by rw [Lib.decDigits, dif_pos (by omega)]; simp
  | k + 1, u, h => by
    rw [Lib.decDigits]
    split
    · simp
    · have := dec_len k (u / 10) (by rw [Nat.pow_succ] at h; omega)
      rw [List.length_append, List.length_singleton]; omega
theorem itoaB_len {n : Int} (h : i64R n) : 1 ≤ (itoaB n).length ∧ (itoaB n).length ≤ 21 := by
  rw [itoaB_eq h.1 h.2]
  obtain ⟨h1, h2⟩ := h
  unfold Lib.itoa
  split
  · have := dec_len 19 n.natAbs (by omega)
    rw [List.length_cons]; omega
  · have := dec_len 19 n.toNat (by omega)
    omega
/-- a sign of a number -/
noncomputable def digB (b : UInt8) : Bool := decide (b = 45) || (decide (48 ≤ b.toNat) && decide (b.toNat ≤ 57))
theorem dec_dig (u : Nat) : ∀ b ∈ Lib.decDigits u, 48 ≤ b.toNat ∧ b.toNat ≤ 57 := by
  induction u using Nat.strongRecOn with
  | ind u ih =>
    intro b hb
    rw [Lib.decDigits] at hb
    split at hb
    · rename_i q
      rw [List.mem_singleton] at hb
      subst hb
      rw [UInt8.toNat_ofNat']
      omega
    · rename_i q
      rcases List.mem_append.1 hb with hb | hb
      · exact ih (u / 10) (by omega) b hb
      · rw [List.mem_singleton] at hb
        subst hb
        rw [UInt8.toNat_ofNat']
        omega
theorem itoaB_dig {n : Int} (h : i64R n) : ∀ b ∈ itoaB n, digB b = true := by
  rw [itoaB_eq h.1 h.2]
  have key : ∀ u, ∀ b ∈ Lib.decDigits u, digB b = true := fun u b hb => by
    obtain ⟨h1, h2⟩ := dec_dig u b hb
    unfold digB
    rw [decide_eq_true h1, decide_eq_true h2]
    simp
  unfold Lib.itoa
  split
  · intro b hb
    rcases List.mem_cons.1 hb with rfl | hb
    · decide
    · exact key _ b hb
  · exact key _
noncomputable def decVal (l : List UInt8) : Nat := l.foldl (fun a b => 10 * a + (b.toNat - 48)) 0
theorem decVal_dec (u : Nat) : decVal (Lib.decDigits u) = u := by
  induction u using Nat.strongRecOn with
  | ind u ih =>
    rw [Lib.decDigits]
    split
    · rename_i q
      show 10 * 0 + ((UInt8.ofNat (48 + u)).toNat - 48) = u
      rw [UInt8.toNat_ofNat']
      omega
    · rename_i q
      have := ih (u / 10) (by omega)
      unfold decVal at *
      rw [List.foldl_append, this]
      show 10 * (u / 10) + ((UInt8.ofNat (48 + u % 10)).toNat - 48) = u
      rw [UInt8.toNat_ofNat']
      omega
theorem dec_inj {u v : Nat} (h : Lib.decDigits u = Lib.decDigits v) : u = v := by
  rw [← decVal_dec u, h, decVal_dec]
theorem itoaB_inj {n m : Int} (hn : i64R n) (hm : i64R m) (h : itoaB n = itoaB m) : n = m := by
  rw [itoaB_eq hn.1 hn.2, itoaB_eq hm.1 hm.2] at h
  have no : ∀ u v : Nat, 45 :: Lib.decDigits u ≠ Lib.decDigits v := fun u v e => by
    have := dec_dig v 45 (by rw [← e]; exact List.mem_cons_self ..)
    exact absurd this.1 (by decide)
  unfold Lib.itoa at h
  split at h <;> split at h
  · have := dec_inj (List.cons.inj h).2
    omega
  · exact (no _ _ h).elim
  · exact (no _ _ h.symm).elim
  · have := dec_inj h
    omega
theorem tw_app : ∀ (A R : List UInt8), (∀ b ∈ A, digB b = true) → (∀ b r, R = b :: r → digB b = false) → (A ++ R).takeWhile digB = A ∧ (A ++ R).dropWhile digB = R
  | [], R, _, hR => by
    cases R with
    | nil => exact ⟨rfl, rfl⟩
    | cons b r =>
      have := hR b r rfl
      simp [List.takeWhile, List.dropWhile, this]
  | a :: A, R, hA, hR => by
    have h1 := hA a (List.mem_cons_self ..)
    obtain ⟨h2, h3⟩ := tw_app A R (fun b hb => hA b (List.mem_cons_of_mem _ hb)) hR
    simp [List.takeWhile, List.dropWhile, h1, h2, h3]
/-- two numbers, each with what is none behind: the same just if both are -/
theorem num_split {n m : Int} (hn : i64R n) (hm : i64R m) {R S : List UInt8} (hR : ∀ b r, R = b :: r → digB b = false) (hS : ∀ b r, S = b :: r → digB b = false) (h : itoaB n ++ R = itoaB m ++ S) : n = m ∧ R = S := by
  obtain ⟨a1, a2⟩ := tw_app _ R (itoaB_dig hn) hR
  obtain ⟨b1, b2⟩ := tw_app _ S (itoaB_dig hm) hS
  rw [h] at a1 a2
  exact ⟨itoaB_inj hn hm (a1.symm.trans b1), a2.symm.trans b2⟩
end Go.Proofs.YtpgekabdemmlfaaDoor.EV
