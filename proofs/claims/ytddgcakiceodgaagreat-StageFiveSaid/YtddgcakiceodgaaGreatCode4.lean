/- Plain laws of what is written and read. No condition. -/
import Derived.Test.YtddgcakiceodgaaGreatCode3
namespace Go.Proofs.YtddgcakiceodgaaGreat.EV
open Go Go.Proofs
set_option linter.unusedVariables false
theorem beN_inj : ∀ {l m : List UInt8}, l.length = m.length → beN l = beN m → l = m
  | [], [], _, _ => rfl
  | a :: l, b :: m, hl, h => by
    rw [beN_cons, beN_cons] at h
    have hl' : l.length = m.length := by simpa using hl
    have h1 := beN_lt l
    have h2 := beN_lt m
    rw [hl'] at h h1
    have hp : 0 < 256 ^ m.length := Nat.pow_pos (by decide)
    have e1 : a.toNat = b.toNat := by
      have := congrArg (· / 256 ^ m.length) h
      rw [Nat.mul_comm, Nat.mul_add_div hp, Nat.div_eq_of_lt h1, Nat.mul_comm b.toNat, Nat.mul_add_div hp, Nat.div_eq_of_lt h2] at this
      omega
    rw [e1] at h
    rw [UInt8.toNat_inj.1 e1, beN_inj hl' (by omega)]
theorem readN_mod {l : List UInt8} (h : l.length ≤ 8) : readN l % (256 : Int) ^ l.length = beN l := by
  have h1 := beN_lt l
  have h3 : ((256 : Int) ^ l.length) = ((256 ^ l.length : Nat) : Int) := by rw [Int.natCast_pow]; rfl
  unfold readN sgn64
  split
  · rw [h3]; exact Int.emod_eq_of_lt (Int.natCast_nonneg _) (Int.ofNat_lt.2 h1)
  · have h2 : l.length = 8 := by
      by_cases q : l.length = 8
      · exact q
      · have : 256 ^ l.length ≤ 256 ^ 7 := Nat.pow_le_pow_right (by decide) (by omega)
        omega
    rw [h2] at h1 ⊢
    omega
theorem numB_readN {l : List UInt8} {k : Nat} (hk : l.length = k) (h : k ≤ 8) : numB (readN l) k = l := by
  subst hk
  refine beN_inj (numB_len _ _) ?_
  have h1 := beN_numB (readN l) l.length
  rw [readN_mod h] at h1
  omega
theorem readN_numB4 {n : Int} (h : 0 ≤ n ∧ n < 4294967296) : readN (numB n 4) = n := by
  have h1 := beN_numB n 4
  have h2 : n % (256 : Int) ^ 4 = n := by omega
  rw [h2] at h1
  unfold readN sgn64
  rw [if_pos (by omega), h1]
theorem readN_numB8 {n : Int} (h : -9223372036854775808 ≤ n ∧ n < 9223372036854775808) : readN (numB n 8) = n := by
  have h1 := beN_numB n 8
  unfold readN sgn64
  split <;> omega
theorem byteI_readN (b : UInt8) : byteI (readN [b]) 0 = b := by
  have h1 : readN [b] = (b.toNat : Int) := by
    have := b.toNat_lt
    unfold readN sgn64 beN
    simp only [List.foldl_cons, List.foldl_nil, Nat.zero_mul, Nat.zero_add]
    rw [if_pos (by omega)]
  rw [h1]
  apply UInt8.toNat_inj.1
  have := byteI_toNat (b.toNat : Int) 0
  have h2 := b.toNat_lt
  simp only [Nat.mul_zero, Int.pow_zero, Int.ediv_one] at this
  omega
theorem byteI_toNat' (b : UInt8) : byteI (b.toNat : Int) 0 = b := by
  apply UInt8.toNat_inj.1
  have := byteI_toNat (b.toNat : Int) 0
  have h2 := b.toNat_lt
  simp only [Nat.mul_zero, Int.pow_zero, Int.ediv_one] at this
  omega
theorem readN_byteI {n : Int} (h : 0 ≤ n ∧ n < 256) : readN [byteI n 0] = n := by
  have h1 := byteI_toNat n 0
  simp only [Nat.mul_zero, Int.pow_zero, Int.ediv_one] at h1
  unfold readN sgn64 beN
  simp only [List.foldl_cons, List.foldl_nil, Nat.zero_mul, Nat.zero_add]
  rw [if_pos (by omega)]
  omega
theorem toNat_byteI {n : Int} (h : 0 ≤ n ∧ n < 256) : ((byteI n 0).toNat : Int) = n := by
  have h1 := byteI_toNat n 0
  simp only [Nat.mul_zero, Int.pow_zero, Int.ediv_one] at h1
  omega
theorem drop_pre {α : Type} {a b : List α} {k : Nat} (h : a.length = k) : (a ++ b).drop k = b := by
  rw [← h, List.drop_left]
theorem take_pre {α : Type} {a b : List α} {k : Nat} (h : a.length = k) : (a ++ b).take k = a := by
  rw [← h, List.take_left]
theorem decItem_enc {x : Item} (h : imay x = true) (r : List UInt8) : decItem (encItem x ++ r) = x := by
  have f := imay_facts h
  unfold decItem encItem
  have e1 : (numB x.id 4 ++ byteI x.w 0 :: numB x.lag 8 ++ r) = numB x.id 4 ++ (byteI x.w 0 :: (numB x.lag 8 ++ r)) := by simp
  rw [e1]
  have d5 : (numB x.id 4 ++ (byteI x.w 0 :: (numB x.lag 8 ++ r))).drop 5 = numB x.lag 8 ++ r := by
    rw [show 5 = 4 + 1 from rfl, ← List.drop_drop, drop_pre (numB_len _ _)]; rfl
  rw [d5, take_pre (numB_len _ _), drop_pre (numB_len _ _), take_pre (numB_len _ _), List.take_succ_cons, List.take_zero, readN_numB4 (by omega), readN_byteI (by omega), readN_numB8 (by omega)]
theorem decs_enc : ∀ {l : List Item} (r : List UInt8), (∀ x ∈ l, imay x = true) → decs l.length (l.flatMap encItem ++ r) = l
  | [], _, _ => rfl
  | x :: l, r, h => by
    rw [List.length_cons, decs, List.flatMap_cons, List.append_assoc, decItem_enc (h x (by simp)), drop_pre (encItem_len x), decs_enc r fun z hz => h z (by simp [hz])]
theorem enc_decItem {q : List UInt8} (h : 13 ≤ q.length) : encItem (decItem q) = q.take 13 := by
  unfold encItem decItem
  dsimp only
  rw [numB_readN (by rw [List.length_take]; omega) (by decide), numB_readN (by rw [List.length_take, List.length_drop]; omega) (by decide)]
  obtain ⟨b, hb⟩ : ∃ b, (q.drop 4).take 1 = [b] := by
    match hq : q.drop 4 with
    | [] => have := congrArg List.length hq; rw [List.length_drop] at this; simp at this; omega
    | b :: t => exact ⟨b, rfl⟩
  rw [hb, byteI_readN]
  have h1 : q.take 13 = q.take 4 ++ ((q.drop 4).take 1 ++ (q.drop 5).take 8) := by
    rw [show 13 = 4 + (1 + 8) from rfl, List.take_add, List.take_add, List.drop_drop]
  rw [h1, hb]; rfl
theorem encs_decs : ∀ (n : Nat) (q : List UInt8), q.length = 13 * n → (decs n q).flatMap encItem = q
  | 0, q, h => by
    have : q = [] := List.eq_nil_of_length_eq_zero (by omega)
    subst this; rfl
  | n + 1, q, h => by
    rw [decs, List.flatMap_cons, enc_decItem (by omega), encs_decs n _ (by rw [List.length_drop]; omega), List.take_append_drop]
theorem openN_seal (l : List UInt8) : openN (sealN l) = some l := by
  have h1 : (sealN l).length - 4 = l.length := by rw [sealN_len]; omega
  have h2 : (sealN l).take l.length = l := by unfold sealN; rw [List.take_left]
  unfold openN
  rw [h1, h2, if_neg (by rw [sealN_len]; omega), if_pos rfl]
theorem openN_inv {l b : List UInt8} (h : openN l = some b) : sealN b = l := by
  unfold openN at h
  split at h
  · cases h
  · split at h
    · cases h; assumption
    · cases h
theorem versionN_inv {b : List UInt8} {v : Int} (h : versionN b = some v) : ∃ c r, b = 83 :: 72 :: c :: r ∧ v = (c.toNat : Int) := by
  unfold versionN at h
  split at h
  · rename_i a b' c r
    split at h
    · rename_i q
      obtain ⟨rfl, rfl⟩ := q
      cases h
      exact ⟨c, r, rfl, rfl⟩
    · cases h
  · cases h
/-- what was read, was written so -/
theorem getR_inv {y : List UInt8} (h : (getR y).2.2.2 = 0) : cgood (getR y).1 (getR y).2.1 (getR y).2.2.1 = true ∧ sealN (encF (getR y).1 (getR y).2.1 (getR y).2.2.1) = y := by
  unfold getR at h ⊢
  split
  · rename_i q; rw [if_pos q] at h; exact (q h).elim
  · rename_i q
    rw [if_neg q] at h
    split
    · rename_i q2; rw [if_pos q2] at h; cases h
    · rename_i q2
      rw [if_neg q2] at h
      unfold openR at q q2 h ⊢
      cases ho : openN y with
      | none => rw [ho] at q; exact (q (by decide)).elim
      | some b =>
        rw [ho] at q q2 h
        dsimp only at q q2 h ⊢
        cases hb : versionN b with
        | none => rw [hb] at q; dsimp only at q; exact (q (by decide)).elim
        | some v =>
          rw [hb] at q q2 h
          dsimp only at q q2 h ⊢
          obtain ⟨c, r, rfl, rfl⟩ := versionN_inv hb
          have hc : c = 3 := by
            apply UInt8.toNat_inj.1
            have : (c.toNat : Int) = 3 := by omega
            have h3 : (3 : UInt8).toNat = 3 := rfl
            omega
          subst hc
          rw [← openN_inv ho]
          simp only [List.drop_succ_cons, List.drop_zero] at h ⊢
          unfold bodyR at h ⊢
          split
          · rename_i q3; rw [if_pos q3] at h; cases h
          · rename_i q3
            rw [if_neg q3] at h
            have hr : 6 ≤ r.length ∧ r.length = 6 + 13 * bN r 5 := by omega
            split
            · rename_i q4
              refine ⟨q4, ?_⟩
              dsimp only
              congr 1
              unfold encF
              rw [decs_len, encs_decs _ _ (by rw [List.length_drop]; omega), Int.sub_add_cancel, numB_readN (by rw [List.length_take, List.length_drop]; omega) (by decide)]
              match r, hr with
              | [], ⟨h1, _⟩ => simp at h1
              | t :: r, ⟨h1, h2⟩ =>
                have e0 : byteI (bN (t :: r) 0 : Nat) 0 = t := byteI_toNat' t
                have e5 : byteI (bN (t :: r) 5 : Nat) 0 :: (t :: r).drop 6 = r.drop 4 := by
                  match hd : r.drop 4 with
                  | [] => have := congrArg List.length hd; rw [List.length_drop] at this; simp at this h1; omega
                  | u :: r' =>
                    have hg : bN (t :: r) 5 = u.toNat := by
                      unfold bN
                      have : r[4]? = some u := by
                        have := List.getElem?_drop (xs := r) (i := 4) (j := 0)
                        rw [hd] at this
                        exact this.symm
                      rw [List.getD_eq_getElem?_getD, List.getElem?_cons_succ, this]; rfl
                    rw [hg, byteI_toNat']
                    have : (t :: r).drop 6 = r' := by
                      rw [List.drop_succ_cons, show 5 = 4 + 1 from rfl, ← List.drop_drop, hd]; rfl
                    rw [this]
                rw [e0, e5]
                simp only [List.drop_succ_cons, List.drop_zero, List.cons_append, List.nil_append]
                rw [List.take_append_drop]
            · rename_i q4; rw [if_neg q4] at h; cases h
theorem getR_err {y : List UInt8} (h : (getR y).2.2.2 ≠ 0) : (getR y).1 = 0 ∧ (getR y).2.1 = 0 ∧ (getR y).2.2.1 = [] := by
  unfold getR bodyR at h ⊢
  split
  · exact ⟨rfl, rfl, rfl⟩
  · split
    · exact ⟨rfl, rfl, rfl⟩
    · split
      · exact ⟨rfl, rfl, rfl⟩
      · split
        · rename_i q1 q2 q3 q4; rw [if_neg q1, if_neg q2, if_neg q3, if_pos q4] at h; exact (h rfl).elim
        · exact ⟨rfl, rfl, rfl⟩
theorem getR_enc {tag cur : Int} {l : List Item} (h : cgood tag cur l = true) : getR (sealN (encF tag cur l)) = (tag, cur, l, 0) := by
  obtain ⟨a1, a2, a3⟩ := cgood_facts h
  obtain ⟨l1, l2, l3, l4⟩ := good_facts a3
  have h0 : encF tag cur l = 83 :: 72 :: 3 :: (byteI tag 0 :: (numB (cur + 1) 4 ++ (byteI (l.length : Int) 0 :: l.flatMap encItem))) := by unfold encF; rfl
  have hv : versionN (encF tag cur l) = some 3 := by rw [h0]; rfl
  have ho : openR (sealN (encF tag cur l)) = ((encF tag cur l).drop 3, 3, 0) := by
    unfold openR
    rw [openN_seal]
    dsimp only
    rw [hv]
  have h5 : bN (byteI tag 0 :: (numB (cur + 1) 4 ++ (byteI (l.length : Int) 0 :: l.flatMap encItem))) 5 = l.length := by
    unfold bN
    rw [List.getD_eq_getElem?_getD, List.getElem?_cons_succ, List.getElem?_append_right (by rw [numB_len]; omega), numB_len]
    have := toNat_byteI (n := (l.length : Int)) (by omega)
    show (byteI (l.length : Int) 0).toNat = _
    omega
  have h00 : ((bN (byteI tag 0 :: (numB (cur + 1) 4 ++ (byteI (l.length : Int) 0 :: l.flatMap encItem))) 0 : Nat) : Int) = tag := by
    show ((byteI tag 0).toNat : Int) = _
    exact toNat_byteI (by omega)
  have hcu : readN (((byteI tag 0 :: (numB (cur + 1) 4 ++ (byteI (l.length : Int) 0 :: l.flatMap encItem))).drop 1).take 4) - 1 = cur := by
    rw [List.drop_succ_cons, List.drop_zero, take_pre (numB_len _ _), readN_numB4 (by omega)]
    omega
  have h6 : (byteI tag 0 :: (numB (cur + 1) 4 ++ (byteI (l.length : Int) 0 :: l.flatMap encItem))).drop 6 = l.flatMap encItem := by
    rw [List.drop_succ_cons, show 5 = 4 + 1 from rfl, ← List.drop_drop, drop_pre (numB_len _ _)]; rfl
  have hd := decs_enc (l := l) [] l4
  rw [List.append_nil] at hd
  unfold getR
  rw [ho, if_neg (by simp), if_neg (by simp)]
  dsimp only
  rw [h0]
  simp only [List.drop_succ_cons, List.drop_zero]
  unfold bodyR
  rw [h5, h00, hcu, h6, hd, if_neg (by simp only [List.length_cons, List.length_append, numB_len, flatMap_enc_len]; omega), h, if_pos rfl]
/-- cut short or with more behind, it is refused -/
theorem getR_len {y : List UInt8} (h : (getR y).2.2.2 = 0) : y.length = 13 + 13 * bN y 8 := by
  obtain ⟨h1, h2⟩ := getR_inv h
  obtain ⟨a1, a2, a3⟩ := cgood_facts h1
  obtain ⟨l1, l2, l3, l4⟩ := good_facts a3
  rw [← h2, sealN_len, encF_len]
  generalize (getR y).1 = tag at *
  generalize (getR y).2.1 = cur at *
  generalize (getR y).2.2.1 = l at *
  have : bN (sealN (encF tag cur l)) 8 = l.length := by
    unfold bN sealN encF
    rw [List.getD_eq_getElem?_getD, List.append_assoc, List.getElem?_append_right (by simp), List.append_assoc, List.getElem?_append_right (by simp [numB_len])]
    simp only [List.length_cons, List.length_nil, numB_len]
    have := toNat_byteI (n := (l.length : Int)) (by omega)
    show (byteI (l.length : Int) 0).toNat = _
    omega
  omega
theorem bN_take (y : List UInt8) (n i : Nat) (h : i < n) : bN (y.take n) i = bN y i := by
  unfold bN
  rw [List.getD_eq_getElem?_getD, List.getD_eq_getElem?_getD, List.getElem?_take_of_lt h]
theorem bN_app (y m : List UInt8) (i : Nat) (h : i < y.length) : bN (y ++ m) i = bN y i := by
  unfold bN
  rw [List.getD_eq_getElem?_getD, List.getD_eq_getElem?_getD, List.getElem?_append_left h]
theorem getR_cut {y : List UInt8} (h : (getR y).2.2.2 = 0) (n : Nat) (hn : n < y.length) : (getR (y.take n)).2.2.2 ≠ 0 := by
  intro q
  have h1 := getR_len h
  have h2 := getR_len q
  have h3 : (y.take n).length = n := by rw [List.length_take]; omega
  rw [h3, bN_take _ _ _ (by omega)] at h2
  omega
theorem getR_more {y : List UInt8} (h : (getR y).2.2.2 = 0) (m : List UInt8) (hm : 1 ≤ m.length) : (getR (y ++ m)).2.2.2 ≠ 0 := by
  intro q
  have h1 := getR_len h
  have h2 := getR_len q
  rw [List.length_append, bN_app _ _ _ (by omega)] at h2
  omega
/-- one bit of the sum is told by the next -/
theorem stepN_odd {c : Nat} (h : c < 4294967296) : (stepN c).testBit 31 = decide (c % 2 = 1) := by
  have h1 : (c >>> 1).testBit 31 = false := Nat.testBit_lt_two_pow (by rw [Nat.shiftRight_eq_div_pow]; omega)
  unfold stepN
  split
  · rename_i q
    rw [Nat.testBit_xor, h1, decide_eq_true q]; rfl
  · rename_i q
    rw [h1, decide_eq_false q]
theorem stepN_inj {c d : Nat} (hc : c < 4294967296) (hd : d < 4294967296) (h : stepN c = stepN d) : c = d := by
  have h1 := stepN_odd hc
  have h2 := stepN_odd hd
  rw [h, h2, decide_eq_decide] at h1
  unfold stepN at h
  by_cases q : c % 2 = 1
  · rw [if_pos q, if_pos (h1.2 q)] at h
    have h3 : c >>> 1 = d >>> 1 := by
      have := congrArg (· ^^^ 2197175160) h
      simpa [Nat.xor_assoc] using this
    rw [Nat.shiftRight_eq_div_pow, Nat.shiftRight_eq_div_pow] at h3
    have := h1.2 q
    omega
  · rw [if_neg q, if_neg (fun k => q (h1.1 k)), Nat.shiftRight_eq_div_pow, Nat.shiftRight_eq_div_pow] at h
    have : ¬ d % 2 = 1 := fun k => q (h1.1 k)
    omega
theorem iterN_inj : ∀ (n : Nat) {c d : Nat}, c < 4294967296 → d < 4294967296 → iterN n c = iterN n d → c = d
  | 0, _, _, _, _, h => h
  | n + 1, c, d, hc, hd, h => stepN_inj hc hd (iterN_inj n (stepN_lt hc) (stepN_lt hd) h)
theorem xor_inj {a b c : Nat} (h : a ^^^ c = b ^^^ c) : a = b := by
  have := congrArg (· ^^^ c) h
  simpa [Nat.xor_assoc] using this
theorem foldN_inj : ∀ (l : List UInt8) {c d : Nat}, c < 4294967296 → d < 4294967296 → foldN c l = foldN d l → c = d
  | [], _, _, _, _, h => h
  | b :: l, c, d, hc, hd, h => by
    have h1 := foldN_inj l (byteN_lt b hc) (byteN_lt b hd) h
    have hb : b.toNat < 4294967296 := by have := b.toNat_lt; omega
    exact xor_inj (iterN_inj 8 (xor_lt32 hc hb) (xor_lt32 hd hb) h1)
theorem crc_one {a b : List UInt8} {x y : UInt8} (h : crcN (a ++ x :: b) = crcN (a ++ y :: b)) : x = y := by
  unfold crcN at h
  have h1 : foldN 4294967295 (a ++ x :: b) = foldN 4294967295 (a ++ y :: b) := by
    have := congrArg (4294967295 ^^^ ·) h
    simpa [← Nat.xor_assoc] using this
  unfold foldN at h1
  rw [List.foldl_append, List.foldl_append, List.foldl_cons, List.foldl_cons] at h1
  have hx : x.toNat < 4294967296 := by have := x.toNat_lt; omega
  have hy : y.toNat < 4294967296 := by have := y.toNat_lt; omega
  have hf : a.foldl byteN 4294967295 < 4294967296 := foldN_lt a _ (by decide)
  have h2 := foldN_inj b (byteN_lt x hf) (byteN_lt y hf) h1
  have h3 := iterN_inj 8 (xor_lt32 hf hx) (xor_lt32 hf hy) h2
  rw [Nat.xor_comm, Nat.xor_comm _ y.toNat] at h3
  exact UInt8.toNat_inj.1 (xor_inj h3)
theorem tailN_inj {c d : Nat} (hc : c < 4294967296) (hd : d < 4294967296) (h : tailN c = tailN d) : c = d := by
  unfold tailN at h
  injection h with h1 h
  injection h with h2 h
  injection h with h3 h
  injection h with h4 _
  have e1 := congrArg UInt8.toNat h1
  have e2 := congrArg UInt8.toNat h2
  have e3 := congrArg UInt8.toNat h3
  have e4 := congrArg UInt8.toNat h4
  simp only [UInt8.toNat_ofNat', Nat.shiftRight_eq_div_pow] at e1 e2 e3 e4
  omega
/-- one byte turned is told -/
theorem open_turned (l : List UInt8) (i : Nat) (z : UInt8) (hi : i < (sealN l).length) (hz : (sealN l)[i]? ≠ some z) : openN ((sealN l).set i z) = none := by
  cases ho : openN ((sealN l).set i z) with
  | none => rfl
  | some b =>
    exfalso
    have h1 := openN_inv ho
    have hl : b.length = l.length := by
      have := congrArg List.length h1
      rw [sealN_len, List.length_set, sealN_len] at this
      omega
    rw [sealN_len] at hi
    unfold sealN at h1 hz
    by_cases q : i < l.length
    · rw [List.set_append_left _ _ q] at h1
      obtain ⟨h2, h3⟩ := List.append_inj h1 (by rw [List.length_set]; exact hl)
      have h4 := tailN_inj (crcN_lt _) (crcN_lt _) h3
      rw [h2] at h4
      have h5 : l = l.take i ++ l[i] :: l.drop (i + 1) := by
        rw [← List.drop_eq_getElem_cons q, List.take_append_drop]
      have h6 : l.set i z = l.take i ++ z :: l.drop (i + 1) := List.set_eq_take_append_cons_drop .. |>.trans (by rw [if_pos q])
      rw [h6] at h4
      have h7 := crc_one (h4.trans (congrArg crcN h5))
      rw [List.getElem?_append_left q, List.getElem?_eq_getElem q] at hz
      exact hz (by rw [h7])
    · rw [List.set_append_right _ _ (by omega)] at h1
      obtain ⟨h2, h3⟩ := List.append_inj h1 hl
      rw [h2] at h3
      rw [List.getElem?_append_right (by omega), h3, List.getElem?_set_self (by simp [tailN]; omega)] at hz
      exact hz rfl
theorem getR_turned (l : List UInt8) (i : Nat) (z : UInt8) (hi : i < (sealN l).length) (hz : (sealN l)[i]? ≠ some z) : (getR ((sealN l).set i z)).2.2.2 = 9 := by
  have h := open_turned l i z hi hz
  unfold getR openR
  rw [h]
  rfl
end Go.Proofs.YtddgcakiceodgaaGreat.EV
