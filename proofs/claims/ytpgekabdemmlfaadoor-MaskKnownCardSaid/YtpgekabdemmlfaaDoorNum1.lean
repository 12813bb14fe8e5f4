/- Numbers written by the reference: below ten. No condition. -/
import Derived.Test.YtpgekabdemmlfaaDoorO0d
import Derived.Test.YtpgekabdemmlfaaDoorQuo
namespace Go.Proofs.YtpgekabdemmlfaaDoor.EV
open Go Go.Proofs
set_option linter.unusedVariables false
set_option linter.unusedSimpArgs false
set_option maxRecDepth 100000
set_option pp.deepTerms false
set_option pp.deepTerms.threshold 20
theorem strOp_add (a b : List UInt8) (h : a.length + b.length ≤ 9223372036854775807) : Op.stringOp .add ⟨⟨a⟩⟩ ⟨⟨b⟩⟩ = pure (strV (a ++ b)) := by
  unfold Op.stringOp
  show (if ((((⟨⟨a⟩⟩ : ByteArray).size + (⟨⟨b⟩⟩ : ByteArray).size : Nat) : Int) > IntKind.i64.max) then _ else _) = _
  rw [if_neg]
  · have hcat : ((⟨⟨a⟩⟩ : ByteArray) ++ ⟨⟨b⟩⟩) = ⟨⟨a ++ b⟩⟩ := by
      apply ByteArray.ext
      simp
    exact congrArg (fun x => pure (Value.string x)) hcat
  · show ¬ (((a.length + b.length : Nat) : Int) > IntKind.i64.max)
    have : IntKind.i64.max = 9223372036854775807 := by decide
    rw [this]; omega
theorem str_add (P : Program) (t : TypeId) (x y : Operand) (a b : List UInt8) (h : a.length + b.length ≤ 9223372036854775807) : evBin P .add t x y (strV a) (strV b) = some (strV (a ++ b)) :=
  str_op P .add t x y a b _ rfl (strOp_add a b h) rfl
noncomputable def dz (v : Nat) : List UInt8 := if v = 0 then [] else Lib.decDigits v
theorem dz_step {v : Nat} (h : v ≠ 0) : dz v = dz (v / 10) ++ [UInt8.ofNat (48 + v % 10)] := by
  unfold dz
  rw [if_neg h, Lib.decDigits]
  by_cases q : v < 10
  · rw [dif_pos q, if_pos (by omega), Nat.mod_eq_of_lt q]; rfl
  · rw [dif_neg q, if_neg (by omega)]
theorem dz_len : ∀ (k v : Nat), v < 10 ^ k → (dz v).length ≤ k
  | 0, v, h => by
    have : v = 0 := by simpa using h
    subst this; exact Nat.zero_le _
  | k + 1, v, h => by
    by_cases q : v = 0
    · subst q; exact Nat.zero_le _
    · rw [dz_step q, List.length_append, List.length_singleton]
      have := dz_len k (v / 10) (by rw [Nat.pow_succ] at h; omega)
      omega
theorem tmod_neg (v : Nat) : (-(v : Int)).tmod 10 = -((v % 10 : Nat) : Int) := by
  rw [Int.neg_tmod]
  rfl
theorem tdiv_neg (v : Nat) : (-(v : Int)).tdiv 10 = -((v / 10 : Nat) : Int) := by
  rw [Int.neg_tdiv]
  rfl
theorem num_neg (n : Int) (h0 : -9223372036854775808 ≤ n) (h1 : n < 0) : WPo (EF Tryd.prog O1 26 [.int .i64 n] ⟨0, .nil⟩) fun q => q.1 = strV (itoaB n) := by
  rw [EF_body (O := O1) (by kernel_rfl) Tryd.func26 rfl (rs := [.tmp 2]) rfl (bad := [9]) (by kernel_rfl) _ _ (m := 37) rfl]
  have d0 : decide (n < 0) = true := decide_eq_true h1
  simp (maxSteps := 1000000) (disch := first | decide | omega | (simp only [go_sem]; first | done | omega)) only [go_sem, Int.reduceToNat, Nat.reduceMul, Nat.reduceAdd, Nat.reduceSub, ↓EU_region, ↓EU_draw, d0]
  repeat refine WPo_ob ?_
  obtain ⟨u, hu, hn⟩ : ∃ u : Nat, n = -(u : Int) ∧ u ≠ 0 := ⟨n.natAbs, by omega, by omega⟩
  have hul : (dz u).length ≤ 20 := dz_len 20 u (by omega)
  have hres : itoaB n = [45] ++ dz u := by
    rw [itoaB_eq h0 (by omega)]
    unfold Lib.itoa dz
    rw [if_pos h1, if_neg hn, show n.natAbs = u by omega]
    rfl
  refine (LP_rule (fun m st => ∃ (v : Nat) (tm : Fr) (h' : Heap) (acc : List UInt8), st = ⟨tm, h', []⟩ ∧ m = (dz v).length ∧ v ≤ u ∧ Fr.get tm 0 = .int .i64 (-(v : Int)) ∧ Fr.get tm 3 = strV acc ∧ dz v ++ acc = dz u)
    (fun q => ∃ tm h', q.2 = ⟨tm, h', []⟩ ∧ q.1 = .exit 0 ∧ Fr.get tm 3 = strV (dz u)) ?_ (dz u).length _ _ ?_ ?_).mono ?_
  · rintro m _ ⟨v, tm, h', acc, rfl, rfl, hv, g0, g3, hz⟩
    by_cases q : v = 0
    · subst q
      have d1 : decide (-((0 : Nat) : Int) < 0) = false := by decide
      simp (maxSteps := 1000000) (disch := first | decide | omega | (simp only [go_sem]; first | done | omega)) only [go_sem, Int.reduceToNat, Nat.reduceMul, Nat.reduceAdd, Nat.reduceSub, ↓EU_region, ↓EU_draw, g0, d1]
      exact ⟨_, _, rfl, trivial, by simp (maxSteps := 1000000) (disch := first | decide | omega | (simp only [go_sem]; first | done | omega)) only [go_sem, Int.reduceToNat, Nat.reduceMul, Nat.reduceAdd, Nat.reduceSub, ↓EU_region, ↓EU_draw, g3]; rw [← hz]; rfl⟩
    · have d1 : decide (-(v : Int) < 0) = true := decide_eq_true (by omega)
      have hrem : ∀ (P : Program) (t : TypeId) (y z : Operand), evBin P .rem t y z (.int .i64 (-(v : Int))) (.int .i64 10) = some (.int .i64 (-((v % 10 : Nat) : Int))) := fun P t y z => by rw [bin_rem0 P t y z _ _ _ (by decide), tmod_neg]
      have hquo : ∀ (P : Program) (t : TypeId) (y z : Operand), evBin P .quo t y z (.int .i64 (-(v : Int))) (.int .i64 10) = some (.int .i64 (-((v / 10 : Nat) : Int))) := fun P t y z => by rw [bin_quo P t y z _ _ _ (by decide), tdiv_neg, wrap64 (by omega)]
      have hw1 : wrapF .i64 (48 - -((v % 10 : Nat) : Int)) = 48 + ((v % 10 : Nat) : Int) := by
        have e : (48 : Int) - -((v % 10 : Nat) : Int) = 48 + ((v % 10 : Nat) : Int) := by omega
        rw [e]
        exact wrap64 (by omega)
      have hw2 : wrapF .u8 (48 + ((v % 10 : Nat) : Int)) = ((UInt8.ofNat (48 + v % 10)).toNat : Int) := by
        have : 48 + ((v % 10 : Nat) : Int) = ((48 + v % 10 : Nat) : Int) := by omega
        rw [this, wrapF_nat rfl (by show _ < 256; omega), UInt8.toNat_ofNat']
        omega
      have hst := dz_step q
      have hlit := OW.lit byteE_len h' [UInt8.ofNat (48 + v % 10)]
      rw [List.flatMap_cons, List.flatMap_nil, List.append_nil] at hlit
      have e1 : CONV Tryd.prog (h'.push (.cells [.int .u8 ((UInt8.ofNat (48 + v % 10)).toNat : Int)] 1)) 54 9 (.slice (some ⟨h'.next, 0, none⟩) 1 3) = some (strV [UInt8.ofNat (48 + v % 10)], _) := conv_str fc_un_54 fc_un_9 fc_un_5 hlit.sl
      have hacc : acc.length ≤ 20 := by
        have := congrArg List.length hz
        rw [List.length_append] at this
        omega
      have had : ∀ (P : Program) (t : TypeId) (y z : Operand), evBin P .add t y z (strV [UInt8.ofNat (48 + v % 10)]) (strV acc) = some (strV ([UInt8.ofNat (48 + v % 10)] ++ acc)) := fun P t y z => str_add P t y z _ _ (by rw [List.length_singleton]; omega)
      simp (maxSteps := 1000000) (disch := first | decide | omega | (simp only [go_sem]; first | done | omega)) only [go_sem, Int.reduceToNat, Nat.reduceMul, Nat.reduceAdd, Nat.reduceSub, ↓EU_region, ↓EU_draw, g0, g3, d1, hrem, hquo, hw1, hw2, e1, had]
      refine ⟨(dz (v / 10)).length, ?_, v / 10, _, _, [UInt8.ofNat (48 + v % 10)] ++ acc, rfl, rfl, by omega, by simp (maxSteps := 1000000) (disch := first | decide | omega | (simp only [go_sem]; first | done | omega)) only [go_sem, Int.reduceToNat, Nat.reduceMul, Nat.reduceAdd, Nat.reduceSub, ↓EU_region, ↓EU_draw], by simp (maxSteps := 1000000) (disch := first | decide | omega | (simp only [go_sem]; first | done | omega)) only [go_sem, Int.reduceToNat, Nat.reduceMul, Nat.reduceAdd, Nat.reduceSub, ↓EU_region, ↓EU_draw], ?_⟩
      · rw [hst, List.length_append, List.length_singleton]; omega
      · rw [← hz, hst, List.append_assoc]
  · exact ⟨u, _, _, [], rfl, rfl, Nat.le_refl _, by simp (maxSteps := 1000000) (disch := first | decide | omega | (simp only [go_sem]; first | done | omega)) only [go_sem, Int.reduceToNat, Nat.reduceMul, Nat.reduceAdd, Nat.reduceSub, ↓EU_region, ↓EU_draw]; rw [hu], by simp (maxSteps := 1000000) (disch := first | decide | omega | (simp only [go_sem]; first | done | omega)) only [go_sem, Int.reduceToNat, Nat.reduceMul, Nat.reduceAdd, Nat.reduceSub, ↓EU_region, ↓EU_draw]; rfl, by rw [List.append_nil]⟩
  · omega
  · rintro ⟨q, _⟩ ⟨tm, h', rfl, rfl, g3⟩
    have had : ∀ (P : Program) (t : TypeId) (y z : Operand), evBin P .add t y z (.string ⟨#[45]⟩) (strV (dz u)) = some (strV ([45] ++ dz u)) := fun P t y z => str_add P t y z [45] _ (by rw [List.length_singleton]; omega)
    simp (maxSteps := 1000000) (disch := first | decide | omega | (simp only [go_sem]; first | done | omega)) only [go_sem, Int.reduceToNat, Nat.reduceMul, Nat.reduceAdd, Nat.reduceSub, ↓EU_region, ↓EU_draw, g3, had]
    rw [hres]
    rfl
theorem num_one (n : Int) (h0 : 0 ≤ n) (h1 : n < 10) : WPo (EF Tryd.prog O1 26 [.int .i64 n] ⟨0, .nil⟩) fun q => q.1 = strV (itoaB n) := by
  rw [EF_body (O := O1) (by kernel_rfl) Tryd.func26 rfl (rs := [.tmp 2]) rfl (bad := [9]) (by kernel_rfl) _ _ (m := 37) rfl]
  have d0 : decide (n < 0) = false := decide_eq_false (by omega)
  have d1 : decide (n < 10) = true := decide_eq_true h1
  obtain ⟨u, rfl⟩ := Int.eq_ofNat_of_zero_le h0
  have hw1 : wrapF .i64 (48 + (u : Int)) = ((48 + u : Nat) : Int) := by rw [wrap64 (by omega)]; omega
  have hw2 : wrapF .u8 ((48 + u : Nat) : Int) = ((UInt8.ofNat (48 + u)).toNat : Int) := by
    rw [wrapF_nat rfl (by show _ < 256; omega), UInt8.toNat_ofNat', Nat.mod_eq_of_lt (by omega)]
  have hlit := OW.lit byteE_len ⟨0, .nil⟩ [UInt8.ofNat (48 + u)]
  rw [List.flatMap_cons, List.flatMap_nil, List.append_nil] at hlit
  have e1 : CONV Tryd.prog ((⟨0, .nil⟩ : Heap).push (.cells [.int .u8 ((UInt8.ofNat (48 + u)).toNat : Int)] 1)) 54 9 (.slice (some ⟨0, 0, none⟩) 1 3) = some (strV [UInt8.ofNat (48 + u)], _) := conv_str fc_un_54 fc_un_9 fc_un_5 hlit.sl
  simp (maxSteps := 1000000) (disch := first | decide | omega | (simp only [go_sem]; first | done | omega)) only [go_sem, Int.reduceToNat, Nat.reduceMul, Nat.reduceAdd, Nat.reduceSub, ↓EU_region, ↓EU_draw, d0, d1, hw1, hw2, e1]
  rw [itoaB_eq (by omega) (by omega)]
  unfold Lib.itoa
  rw [if_neg (by omega), show ((u : Int)).toNat = u by omega, Lib.decDigits, dif_pos (by omega)]
end Go.Proofs.YtpgekabdemmlfaaDoor.EV
