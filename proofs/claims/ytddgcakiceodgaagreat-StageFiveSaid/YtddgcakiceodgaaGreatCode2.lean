/- Plain laws of what is written: it tells the form. No condition. -/
import Derived.Test.YtddgcakiceodgaaGreatCode1
namespace Go.Proofs.YtddgcakiceodgaaGreat.EV
open Go Go.Proofs
set_option linter.unusedVariables false
theorem sealN_len (l : List UInt8) : (sealN l).length = l.length + 4 := by
  unfold sealN tailN
  rw [List.length_append]; rfl
theorem sealN_inj {l m : List UInt8} (h : sealN l = sealN m) : l = m := by
  have hl := congrArg List.length h
  rw [sealN_len, sealN_len] at hl
  exact (List.append_inj h (by omega)).1
theorem numB4_inj {a b : Int} (h : numB a 4 = numB b 4) (ha : 0 ≤ a ∧ a < 4294967296) (hb : 0 ≤ b ∧ b < 4294967296) : a = b := by
  have h1 := beN_numB a 4
  have h2 := beN_numB b 4
  rw [h, h2] at h1
  omega
theorem numB8_inj {a b : Int} (h : numB a 8 = numB b 8) (ha : -1125899906842624 ≤ a ∧ a ≤ 1125899906842624) (hb : -1125899906842624 ≤ b ∧ b ≤ 1125899906842624) : a = b := by
  have h1 := beN_numB a 8
  have h2 := beN_numB b 8
  rw [h, h2] at h1
  omega
theorem byteI_inj {a b : Int} (h : byteI a 0 = byteI b 0) (ha : 0 ≤ a ∧ a < 256) (hb : 0 ≤ b ∧ b < 256) : a = b := by
  have h1 := byteI_toNat a 0
  have h2 := byteI_toNat b 0
  rw [h, h2] at h1
  simp only [Nat.mul_zero, Int.pow_zero, Int.ediv_one] at h1
  omega
theorem encItem_inj {x y : Item} (hx : imay x = true) (hy : imay y = true) (h : encItem x = encItem y) : x = y := by
  have fx := imay_facts hx
  have fy := imay_facts hy
  unfold encItem at h
  obtain ⟨h1, h2⟩ := List.append_inj h (by rw [numB_len, numB_len])
  injection h2 with h2 h3
  have e1 := numB4_inj h1 (by omega) (by omega)
  have e2 := byteI_inj h2 (by omega) (by omega)
  have e3 := numB8_inj h3 (by omega) (by omega)
  cases x; cases y
  simp_all
theorem encs_inj : ∀ {l m : List Item}, (∀ x ∈ l, imay x = true) → (∀ x ∈ m, imay x = true) → l.length = m.length → l.flatMap encItem = m.flatMap encItem → l = m
  | [], [], _, _, _, _ => rfl
  | x :: l, y :: m, hl, hm, hn, h => by
    rw [List.flatMap_cons, List.flatMap_cons] at h
    obtain ⟨h1, h2⟩ := List.append_inj h (by rw [encItem_len, encItem_len])
    rw [encItem_inj (hl x (by simp)) (hm y (by simp)) h1, encs_inj (fun z hz => hl z (by simp [hz])) (fun z hz => hm z (by simp [hz])) (by simpa using hn) h2]
theorem cgood_facts {tag cur : Int} {l : List Item} (h : cgood tag cur l = true) : 0 ≤ tag ∧ tag ≤ 2 ∧ goodF cur l = true := by
  unfold cgood at h
  simp only [Bool.and_eq_true, decide_eq_true_eq] at h
  exact ⟨h.1.1, h.1.2, h.2⟩
theorem encF_inj {a b c d : Int} {l m : List Item} (h1 : cgood a c l = true) (h2 : cgood b d m = true) (h : encF a c l = encF b d m) : a = b ∧ c = d ∧ l = m := by
  obtain ⟨a1, a2, a3⟩ := cgood_facts h1
  obtain ⟨b1, b2, b3⟩ := cgood_facts h2
  obtain ⟨l1, l2, l3, l4⟩ := good_facts a3
  obtain ⟨m1, m2, m3, m4⟩ := good_facts b3
  unfold encF at h
  obtain ⟨e1, e2⟩ := List.append_inj h rfl
  obtain ⟨e3, e4⟩ := List.append_inj e2 (by rw [numB_len, numB_len])
  injection e4 with e4 e5
  injection e1 with _ e1
  injection e1 with _ e1
  injection e1 with _ e1
  injection e1 with e1 _
  have f1 := byteI_inj e1 (by omega) (by omega)
  have f2 := numB4_inj e3 (by omega) (by omega)
  have f3 := byteI_inj e4 (by omega) (by omega)
  exact ⟨f1, by omega, encs_inj l4 m4 (by omega) e5⟩
theorem enc_same {a b c d : Int} {l m : List Item} (h1 : cgood a c l = true) (h2 : cgood b d m = true) : decide (sealN (encF a c l) = sealN (encF b d m)) = (decide (a = b) && (decide (c = d) && decide (l = m))) := by
  by_cases q : a = b ∧ c = d ∧ l = m
  · obtain ⟨rfl, rfl, rfl⟩ := q
    simp
  · rw [decide_eq_false (fun h => q (encF_inj h1 h2 (sealN_inj h)))]
    symm
    simp only [Bool.and_eq_false_iff, decide_eq_false_iff_not]
    by_cases qa : a = b
    · by_cases qc : c = d
      · exact .inr (.inr fun ql => q ⟨qa, qc, ql⟩)
      · exact .inr (.inl qc)
    · exact .inl qa
end Go.Proofs.YtddgcakiceodgaaGreat.EV
