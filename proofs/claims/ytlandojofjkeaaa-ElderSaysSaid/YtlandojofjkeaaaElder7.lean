/- What is read of elder bytes, plainly. No condition. -/
import Derived.Test.YtlandojofjkeaaaElder6
import Derived.Test.YtlandojofjkeaaaLawTags
namespace Go.Proofs.Ytlandojofjkeaaa.EV
open Go Go.Proofs
set_option linter.unusedVariables false
set_option linter.unusedSimpArgs false
set_option maxRecDepth 100000
set_option pp.deepTerms false
set_option pp.deepTerms.threshold 20
theorem readN_numB2 {n : Int} (h : 0 ≤ n ∧ n < 65536) : readN (numB n 2) = n := by
  have h1 := beN_numB n 2
  have h2 : n % (256 : Int) ^ 2 = n := by omega
  rw [h2] at h1
  unfold readN sgn64
  rw [if_pos (by omega), h1]
theorem readN_numB4' (n : Int) : readN (numB n 4) = n % 4294967296 := by
  have h1 := beN_numB n 4
  have h2 : n % (256 : Int) ^ 4 = n % 4294967296 := by rfl
  rw [h2] at h1
  unfold readN sgn64
  rw [if_pos (by omega), h1]
theorem wrap_i32_mod (n : Int) : wrapF .i32 (n % 4294967296) = wrapF .i32 n := by
  have h1 : Int.emod (n % 4294967296) 4294967296 = Int.emod n 4294967296 := by
    show n % 4294967296 % 4294967296 = n % 4294967296
    omega
  show (fun m => cnd (sgnK .i32 && decide (halfK .i32 ≤ m)) (Int.sub m (fullK .i32)) m) (Int.emod (n % 4294967296) 4294967296) = (fun m => cnd (sgnK .i32 && decide (halfK .i32 ≤ m)) (Int.sub m (fullK .i32)) m) (Int.emod n 4294967296)
  rw [h1]
theorem bN_byteI {n : Int} (h : 0 ≤ n ∧ n < 256) (r : List UInt8) : (bN (byteI n 0 :: r) 0 : Int) = n := toNat_byteI h
theorem decIt_enc1 {x : Item} (r : List UInt8) (h : imay x = true) (ho : odd1 x = false) : decIt 1 (encIt1 x ++ r) = x := by
  have fx := imay_facts h
  unfold odd1 at ho
  simp only [Bool.or_eq_false_iff, decide_eq_false_iff_not, Bool.not_eq_false', decide_eq_true_eq] at ho
  unfold decIt encIt1
  rw [show idL 1 = 2 from rfl, List.append_assoc, take_pre (numB_len _ _), ← Nat.add_zero 2, ← bN_drop, Nat.add_zero, drop_pre (numB_len _ _), List.singleton_append, bN_byteI (by omega), readN_numB2 (by omega)]
  rw [show ∀ q, lagV 1 q = 0 from fun q => rfl, ← ho.2]
theorem decIt_enc2 {x : Item} (r : List UInt8) (h : imay x = true) (ho : odd2 x = false) : decIt 2 (encIt2 x ++ r) = x := by
  have fx := imay_facts h
  unfold odd2 at ho
  simp only [Bool.or_eq_false_iff, decide_eq_false_iff_not, Bool.not_eq_false', decide_eq_true_eq] at ho
  unfold decIt encIt2
  rw [show idL 2 = 2 from rfl, List.append_assoc, List.append_assoc, take_pre (numB_len _ _), ← Nat.add_zero 2, ← bN_drop, Nat.add_zero, drop_pre (numB_len _ _), List.singleton_append, bN_byteI (by omega), readN_numB2 (by omega)]
  rw [show 2 + 1 = 2 + 1 from rfl, ← List.drop_drop, drop_pre (numB_len _ _), List.drop_succ_cons, List.drop_zero]
  rw [show ∀ q, lagV 2 q = wrapF .i32 (readN (q.take 4)) * 232792560 from fun q => rfl, take_pre (numB_len _ _), readN_numB4', wrap_i32_mod, ← ho.2.2, ho.2.1]
theorem decVs_enc1 : ∀ {l : List Item} (r : List UInt8), (∀ x ∈ l, imay x = true ∧ odd1 x = false) → decVs 1 l.length (l.flatMap encIt1 ++ r) = l
  | [], _, _ => rfl
  | x :: l, r, h => by
    rw [List.length_cons, decVs, List.flatMap_cons, List.append_assoc, decIt_enc1 _ (h x (by simp)).1 (h x (by simp)).2, drop_pre (show (encIt1 x).length = szV 1 from encIt1_len x), decVs_enc1 r fun z hz => h z (by simp [hz])]
theorem decVs_enc2 : ∀ {l : List Item} (r : List UInt8), (∀ x ∈ l, imay x = true ∧ odd2 x = false) → decVs 2 l.length (l.flatMap encIt2 ++ r) = l
  | [], _, _ => rfl
  | x :: l, r, h => by
    rw [List.length_cons, decVs, List.flatMap_cons, List.append_assoc, decIt_enc2 _ (h x (by simp)).1 (h x (by simp)).2, drop_pre (show (encIt2 x).length = szV 2 from encIt2_len x), decVs_enc2 r fun z hz => h z (by simp [hz])]
theorem readR_enc1 {tag cur : Int} {l : List Item} (h : cgood tag cur l = true) (hc : can1 cur l = true) : readR (sealN (encV1 tag l)) = (1, tag, cur, l, 0) := by
  unfold can1 at hc
  simp only [Bool.and_eq_true, decide_eq_true_eq, Bool.not_eq_true'] at hc
  obtain ⟨rfl, hc2⟩ := hc
  obtain ⟨a1, a2, a3⟩ := cgood_facts h
  obtain ⟨l1, l2, l3, l4⟩ := good_facts a3
  have hv : versionN (encV1 tag l) = some 1 := rfl
  have e0 : encV1 tag l = 83 :: 72 :: 1 :: byteI tag 0 :: byteI (l.length : Int) 0 :: l.flatMap encIt1 := rfl
  have b3 : (bN (encV1 tag l) 3 : Int) = tag := toNat_byteI (by omega)
  have b4 : (bN (encV1 tag l) 4 : Int) = l.length := toNat_byteI (by omega)
  have b4' : bN (encV1 tag l) 4 = l.length := by omega
  have hd : (encV1 tag l).drop 5 = l.flatMap encIt1 := rfl
  have hln : (encV1 tag l).length = 5 + 3 * l.length := by rw [e0]; simp only [List.length_cons, flatMap_len1]; omega
  have hdec := decVs_enc1 (l := l) [] fun x hx => ⟨l4 x hx, by simpa using List.any_eq_false.1 hc2 x hx⟩
  rw [List.append_nil] at hdec
  unfold readR
  rw [openN_seal]
  dsimp only
  rw [hv]
  dsimp only
  rw [if_neg (by omega)]
  unfold bodyV
  rw [show curL 1 = 0 from rfl, show szV 1 = 3 from rfl, Nat.add_zero, Nat.add_zero, b4', hd, hdec, show curV 1 (encV1 tag l) = -1 from rfl, if_neg (by omega), a3, decide_eq_true (by omega : bN (encV1 tag l) 3 ≤ 2), Bool.and_self, if_pos rfl, b3]
theorem readR_enc2 {tag cur : Int} {l : List Item} (h : cgood tag cur l = true) (hc : can2 cur l = true) : readR (sealN (encV2 tag cur l)) = (2, tag, cur, l, 0) := by
  unfold can2 at hc
  simp only [Bool.and_eq_true, decide_eq_true_eq, Bool.not_eq_true'] at hc
  obtain ⟨hc1, hc2⟩ := hc
  obtain ⟨a1, a2, a3⟩ := cgood_facts h
  obtain ⟨l1, l2, l3, l4⟩ := good_facts a3
  have hv : versionN (encV2 tag cur l) = some 2 := rfl
  have e0 : encV2 tag cur l = 83 :: 72 :: 2 :: byteI tag 0 :: (numB (cur + 1) 2 ++ (byteI (l.length : Int) 0 :: l.flatMap encIt2)) := by
    unfold encV2 preV2; simp
  have b3 : (bN (encV2 tag cur l) 3 : Int) = tag := toNat_byteI (by omega)
  have hd4 : (encV2 tag cur l).drop 4 = numB (cur + 1) 2 ++ (byteI (l.length : Int) 0 :: l.flatMap encIt2) := by rw [e0]; rfl
  have hd6 : (encV2 tag cur l).drop 6 = byteI (l.length : Int) 0 :: l.flatMap encIt2 := by
    rw [show 6 = 4 + 2 from rfl, ← List.drop_drop, hd4, drop_pre (numB_len _ _)]
  have b6 : (bN (encV2 tag cur l) 6 : Int) = l.length := by rw [← Nat.add_zero 6, ← bN_drop, hd6]; exact bN_byteI (by omega) _
  have b6' : bN (encV2 tag cur l) 6 = l.length := by omega
  have hd : (encV2 tag cur l).drop 7 = l.flatMap encIt2 := by rw [show 7 = 6 + 1 from rfl, ← List.drop_drop, hd6]; rfl
  have hln : (encV2 tag cur l).length = 7 + 7 * l.length := by unfold encV2; rw [List.length_append, preV2_len, flatMap_len2]
  have hcu : curV 2 (encV2 tag cur l) = cur := by
    show readN (((encV2 tag cur l).drop 4).take 2) - 1 = cur
    rw [hd4, take_pre (numB_len _ _), readN_numB2 (by omega)]; omega
  have hdec := decVs_enc2 (l := l) [] fun x hx => ⟨l4 x hx, by simpa using List.any_eq_false.1 hc2 x hx⟩
  rw [List.append_nil] at hdec
  unfold readR
  rw [openN_seal]
  dsimp only
  rw [hv]
  dsimp only
  rw [if_neg (by omega)]
  unfold bodyV
  rw [show curL 2 = 2 from rfl, show szV 2 = 7 from rfl, b6', hd, hdec, hcu, if_neg (by omega), a3, decide_eq_true (by omega : bN (encV2 tag cur l) 3 ≤ 2), Bool.and_self, if_pos rfl, b3]
theorem upR_enc1 {tag cur : Int} {l : List Item} (h : cgood tag cur l = true) (hc : can1 cur l = true) : upR (sealN (encV1 tag l)) = (sealN (encF tag cur l), 0) := by
  unfold upR
  rw [readR_enc1 h hc]; rfl
theorem upR_enc2 {tag cur : Int} {l : List Item} (h : cgood tag cur l = true) (hc : can2 cur l = true) : upR (sealN (encV2 tag cur l)) = (sealN (encF tag cur l), 0) := by
  unfold upR
  rw [readR_enc2 h hc]; rfl
theorem upR_enc3 {tag cur : Int} {l : List Item} (h : cgood tag cur l = true) : upR (sealN (encF tag cur l)) = (sealN (encF tag cur l), 0) := by
  unfold upR
  rw [readR_enc h]; rfl
/-- what the first version can say, the second can -/
theorem can1_2 {cur : Int} {l : List Item} (hc : can1 cur l = true) : can2 cur l = true := by
  unfold can1 at hc
  unfold can2
  simp only [Bool.and_eq_true, decide_eq_true_eq, Bool.not_eq_true', List.any_eq_false] at hc ⊢
  refine ⟨by omega, fun x hx => ?_⟩
  have := hc.2 x hx
  unfold odd1 at this
  unfold odd2
  simp only [Bool.or_eq_true, decide_eq_true_eq, Bool.not_eq_true', decide_eq_false_iff_not, not_or, Decidable.not_not] at this ⊢
  obtain ⟨h1, h2⟩ := this
  have hs : scl x = 0 := by unfold scl; rw [h2]; rfl
  rw [hs, h2]
  exact ⟨h1, rfl, rfl⟩
end Go.Proofs.Ytlandojofjkeaaa.EV
