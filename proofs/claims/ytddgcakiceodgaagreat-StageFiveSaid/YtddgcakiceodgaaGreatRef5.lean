/- Contract: the reference's Get; it says what the code's says. No condition. -/
import Derived.Test.YtddgcakiceodgaaGreatRef4
namespace Go.Proofs.YtddgcakiceodgaaGreat.EV
open Go Go.Proofs
set_option linter.unusedVariables false
set_option linter.unusedSimpArgs false
set_option maxRecDepth 100000
set_option pp.deepTerms false
set_option pp.deepTerms.threshold 20
theorem readN_one (q : List UInt8) (k : Nat) : readN ((q.drop k).take 1) = (bN q k : Int) := by
  have h := bN_lt q k
  cases hq : q.drop k with
  | nil =>
    have h1 : bN q k = 0 := by
      have := bN_drop q k 0
      rw [hq, Nat.add_zero] at this
      rw [← this]; rfl
    rw [h1]; rfl
  | cons b r =>
    have h1 : bN q k = b.toNat := by
      have := bN_drop q k 0
      rw [hq, Nat.add_zero] at this
      rw [← this]; rfl
    rw [h1] at h ⊢
    unfold readN sgn64 beN
    simp only [List.take_succ_cons, List.take_zero, List.foldl_cons, List.foldl_nil, Nat.zero_mul, Nat.zero_add]
    rw [if_pos (by omega)]
theorem decIt_3 (q : List UInt8) : decIt 3 q = decItem q := by
  unfold decIt decItem
  rw [readN_one]; rfl
theorem decVs_3 : ∀ (n : Nat) (q : List UInt8), decVs 3 n q = decs n q
  | 0, _ => rfl
  | n + 1, q => by rw [decVs, decs, decIt_3, decVs_3 n]; rfl
theorem bodyV_3 {p : List UInt8} (h3 : 3 ≤ p.length) : bodyV 3 p = bodyR (p.drop 3) := by
  have e1 : bN (p.drop 3) 5 = bN p 8 := bN_drop p 3 5
  have e2 : bN (p.drop 3) 0 = bN p 3 := bN_drop p 3 0
  have e3 : readN (((p.drop 3).drop 1).take 4) - 1 = curV 3 p := by rw [List.drop_drop]; rfl
  have e4 : (p.drop 3).drop 6 = p.drop 9 := by rw [List.drop_drop]
  unfold bodyV bodyR
  rw [e1, e2, e3, e4, List.length_drop]
  rw [show 5 + curL 3 = 9 from rfl, show 4 + curL 3 = 8 from rfl, show szV 3 = 13 from rfl, decVs_3]
  have hc : cgood (bN p 3 : Int) (curV 3 p) (decs (bN p 8) (p.drop 9)) = (decide (bN p 3 ≤ 2) && goodF (curV 3 p) (decs (bN p 8) (p.drop 9))) := by
    unfold cgood
    rw [decide_eq_true (by omega : (0 : Int) ≤ (bN p 3 : Int)), Bool.true_and]
    congr 1
    rw [decide_eq_decide]; omega
  rw [hc]
  by_cases q : p.length < 9 ∨ p.length ≠ 9 + 13 * bN p 8
  · rw [if_pos q, if_pos (show p.length - 3 < 6 ∨ p.length - 3 ≠ 6 + 13 * bN p 8 by omega)]
  · rw [if_neg q, if_neg (show ¬ (p.length - 3 < 6 ∨ p.length - 3 ≠ 6 + 13 * bN p 8) by omega)]
noncomputable def rgetR (l : List UInt8) : Int × Int × List Item × Int :=
  if (readR l).2.2.2.2 ≠ 9 ∧ (readR l).1 ≠ 3 ∧ ((readR l).1 = 1 ∨ (readR l).1 = 2) then (0, 0, [], 10) else (readR l).2
theorem getR_ref (l : List UInt8) : rgetR l = getR l := by
  cases ho : openN l with
  | none =>
    have e1 : readR l = (0, 0, 0, [], 9) := by unfold readR; rw [ho]
    have e2 : openR l = ([], 0, 9) := by unfold openR; rw [ho]
    unfold rgetR getR
    rw [e1, e2]; rfl
  | some p =>
    cases hb : versionN p with
    | none =>
      have e1 : readR l = (0, 0, 0, [], 8) := by unfold readR; rw [ho]; dsimp only; rw [hb]
      have e2 : openR l = ([], 0, 8) := by unfold openR; rw [ho]; dsimp only; rw [hb]
      unfold rgetR getR
      rw [e1, e2]; rfl
    | some v =>
      have e1 : readR l = if v < 1 ∨ 3 < v then (v, 0, 0, [], 10) else (v, bodyV v p) := by unfold readR; rw [ho]; dsimp only; rw [hb]
      have e2 : openR l = (p.drop 3, v, 0) := by unfold openR; rw [ho]; dsimp only; rw [hb]
      have h3 : 3 ≤ p.length := by
        obtain ⟨c, r, rfl, rfl⟩ := versionN_inv hb
        simp only [List.length_cons]; omega
      have e3 : getR l = if v ≠ 3 then (0, 0, [], 10) else bodyR (p.drop 3) := by
        unfold getR
        rw [e2]; rfl
      have hne : (bodyV v p).2.2.2 ≠ 9 := by
        unfold bodyV
        split
        · simp
        · split <;> simp
      rw [e3]
      unfold rgetR
      by_cases hv : v < 1 ∨ 3 < v
      · rw [e1, if_pos hv, if_pos (show v ≠ 3 by omega), if_neg (by rintro ⟨_, _, h⟩; dsimp only at h; omega)]
      · rw [e1, if_neg hv]
        by_cases h3' : v = 3
        · rw [if_neg (show ¬ v ≠ 3 by omega), if_neg (by rintro ⟨_, h, _⟩; exact h h3'), h3']
          exact bodyV_3 h3
        · rw [if_pos (show v ≠ 3 from h3'), if_pos ⟨hne, h3', by dsimp only; omega⟩]
end Go.Proofs.YtddgcakiceodgaaGreat.EV
