/- MaskAround, plainly. No condition. -/
import Derived.Test.YtpgekabdemmlfaaDoorMask4
namespace Go.Proofs.YtpgekabdemmlfaaDoor.EV
open Go Go.Proofs
set_option linter.unusedVariables false
set_option linter.unusedSimpArgs false
set_option maxRecDepth 100000
set_option pp.deepTerms false
set_option pp.deepTerms.threshold 20
theorem cores_mem {M i x : Nat} : x ∈ cores M i ↔ x < i ∧ hasN M x = true := by
  unfold cores
  rw [List.mem_filter, List.mem_range]
theorem turn_perm : ∀ f, f < 16 → ((List.range 16).map fun i => (f + i) % 16).Perm (List.range 16) := by decide +kernel
theorem turn_0 : ((List.range 16).map fun i => (0 + i) % 16) = List.range 16 := by decide +kernel
theorem arN_perm (M : Nat) {f : Nat} (hf : f < 16) : (arN M f 16).Perm (cores M 16) := (turn_perm f hf).filter _
theorem arI_0 (M : Nat) : arI M 0 16 = coresI M 16 := by
  unfold arI coresI arN cores
  rw [turn_0]
theorem arI_len16 (M : Nat) {f : Nat} (hf : f < 16) : (arI M f 16).length = (cores M 16).length := by
  unfold arI
  rw [List.length_map, (arN_perm M hf).length_eq]
theorem ofFold_bit (j : Nat) : ∀ (l : List Nat) (m : Nat), (∀ x ∈ l, x < 16) → ((l.map fun (n : Nat) => (n : Int)).foldl ofStep m).testBit j = (m.testBit j || decide (j ∈ l))
  | [], m, _ => by simp
  | x :: l, m, h => by
    have hx := h x (List.mem_cons_self ..)
    have hs : ofStep m (x : Int) = m ||| 2 ^ x := by
      unfold ofStep
      rw [if_pos ⟨by omega, by omega⟩, toNat_nat]
    rw [List.map_cons, List.foldl_cons, ofFold_bit j l _ (fun y hy => h y (List.mem_cons_of_mem _ hy)), hs, Nat.testBit_or, Nat.testBit_two_pow, Bool.or_assoc]
    congr 1
    rw [Bool.eq_iff_iff]
    simp only [Bool.or_eq_true, decide_eq_true_eq, List.mem_cons]
    constructor
    · rintro (q | q)
      · exact .inl q.symm
      · exact .inr q
    · rintro (q | q)
      · exact .inl q.symm
      · exact .inr q
theorem of_set {M : Nat} (hM : M < 65536) {l : List Nat} (h : ∀ x, x ∈ l ↔ x < 16 ∧ hasN M x = true) : ofN (l.map fun (n : Nat) => (n : Int)) = M := by
  apply Nat.eq_of_testBit_eq
  intro j
  unfold ofN
  rw [ofFold_bit j l 0 fun x hx => ((h x).1 hx).1, Nat.zero_testBit, Bool.false_or]
  by_cases q : j < 16
  · rw [Bool.eq_iff_iff, decide_eq_true_eq, h j]
    exact ⟨fun e => e.2, fun e => ⟨q, e⟩⟩
  · have hp : 2 ^ 16 ≤ 2 ^ j := Nat.pow_le_pow_right (by decide) (by omega)
    rw [Nat.testBit_lt_two_pow (by omega)]
    exact decide_eq_false fun e => q ((h j).1 e).1
theorem of_around {M : Nat} (hM : M < 65536) {f : Nat} (hf : f < 16) : ofN (arI M f 16) = M :=
  of_set hM fun x => by rw [(arN_perm M hf).mem_iff]; exact cores_mem
theorem of_list {M : Nat} (hM : M < 65536) : ofN (coresI M 16) = M := of_set hM fun x => cores_mem
theorem wf_u16 {n : Int} (h : (Lit.int .u16 n).wf = true) : 0 ≤ n ∧ n < 65536 := by
  have : 0 ≤ n ∧ n ≤ 65535 := by simpa [Lit.wf, IntKind.min, IntKind.max, IntKind.signed, IntKind.bits] using h
  omega
theorem wf_i64 {n : Int} (h : (Lit.int .i64 n).wf = true) : -9223372036854775808 ≤ n ∧ n ≤ 9223372036854775807 := by
  simpa [Lit.wf, IntKind.min, IntKind.max, IntKind.signed, IntKind.bits] using h
theorem law_MaskAround (h : Heap) (m : Int) (wm : (Lit.int .u16 m).wf = true) (c : Int) (wc : (Lit.int .i64 c).wf = true) :
    WPo (EF Tryd.prog O0 4 [.int .u16 m, .int .i64 c] h) fun q => q.1 = .bool true := by
  rw [EF_body (O := O0) (by kernel_rfl) Tryd.func4 rfl (rs := [.tmp 4]) rfl (bad := []) (by kernel_rfl) _ _ (m := 38) rfl]
  obtain ⟨a0, a1⟩ := wf_u16 wm
  obtain ⟨M, rfl⟩ := Int.eq_ofNat_of_zero_le a0
  have hM : M < 65536 := by omega
  have hf := clampN_lt c
  simp (maxSteps := 1000000) (disch := first | decide | omega | (simp only [go_sem]; first | done | omega)) only [go_sem, Int.reduceToNat, Nat.reduceMul, Nat.reduceAdd, Nat.reduceSub, ↓EU_region, ↓EU_draw, awake_ev]
  repeat refine WPo_ob ?_
  refine (around_ev M hM c (wf_i64 wc) h).mono ?_
  rintro ⟨v1, h1⟩ ⟨o1, f1, x1⟩
  simp only at o1 x1
  have l1 := arI_len M (clampN c) 16
  have e1 := of_ev _ v1 h1 o1.sl (by omega)
  rw [of_around hM hf] at e1
  have e2 := arI_len16 M hf
  obtain ⟨b1, c1, rfl⟩ := o1.val
  rw [e2] at e1 o1
  have e3 := fun h => len_ev M hM h
  have dt : ∀ x : Int, decide (x = x) = true := fun x => decide_eq_true rfl
  simp (maxSteps := 1000000) (disch := first | decide | omega | (simp only [go_sem]; first | done | omega)) only [go_sem, Int.reduceToNat, Nat.reduceMul, Nat.reduceAdd, Nat.reduceSub, ↓EU_region, ↓EU_draw, e1, e2, e3, dt]
  repeat refine WPo_ob ?_
  refine (around_ev M hM 0 ⟨by decide, by decide⟩ h1).mono ?_
  rintro ⟨v2, h2⟩ ⟨o2, f2, x2⟩
  simp only at o2 x2
  rw [show clampN 0 = 0 from rfl, arI_0] at o2
  obtain ⟨b2, c2, rfl⟩ := o2.val
  simp (maxSteps := 1000000) (disch := first | decide | omega | (simp only [go_sem]; first | done | omega)) only [go_sem, Int.reduceToNat, Nat.reduceMul, Nat.reduceAdd, Nat.reduceSub, ↓EU_region, ↓EU_draw]
  repeat refine WPo_ob ?_
  refine (list_ev M hM h2).mono ?_
  rintro ⟨v3, h3⟩ ⟨o3, f3, x3⟩
  simp only at o3 x3
  have l3 := coresI_len M 16
  have e4 := ints_ev _ _ _ v3 h3 (o2.ext x3).sl o3.sl (by omega)
  rw [decide_eq_true rfl] at e4
  obtain ⟨b3, c3, rfl⟩ := o3.val
  simp (maxSteps := 1000000) (disch := first | decide | omega | (simp only [go_sem]; first | done | omega)) only [go_sem, Int.reduceToNat, Nat.reduceMul, Nat.reduceAdd, Nat.reduceSub, ↓EU_region, ↓EU_draw, e4]
  repeat refine WPo_ob ?_
  refine (list_ev M hM h3).mono ?_
  rintro ⟨v4, h4⟩ ⟨o4, f4, x4⟩
  simp only at o4 x4
  have e5 := of_ev _ v4 h4 o4.sl (by omega)
  rw [of_list hM] at e5
  obtain ⟨b4, c4, rfl⟩ := o4.val
  simp (maxSteps := 1000000) (disch := first | decide | omega | (simp only [go_sem]; first | done | omega)) only [go_sem, Int.reduceToNat, Nat.reduceMul, Nat.reduceAdd, Nat.reduceSub, ↓EU_region, ↓EU_draw, e5, dt]
end Go.Proofs.YtpgekabdemmlfaaDoor.EV
