/- The reference's numbers of any size: Div. No condition. -/
import Derived.Test.YtoomhlfogeglcaaBig6
namespace Go.Proofs.Ytoomhlfogeglcaa.EV
open Go Go.Proofs
set_option linter.unusedVariables false
set_option linter.unusedSimpArgs false
set_option maxRecDepth 100000
set_option pp.deepTerms false
set_option pp.deepTerms.threshold 20
abbrev SlT := Option Addr × Nat × Nat
noncomputable def slV (x : SlT) : Value := .slice x.1 x.2.1 x.2.2
noncomputable def eS (x : SlT) : List Value := [slV x]
theorem eS_len (x : SlT) : (eS x).length = 1 := rfl
theorem eS_scal (x : SlT) : (eS x).all scal = true := rfl
noncomputable def EL (h : Heap) (V W : Value) (s : SlT) (l : List Int) : Prop := SL (intE .i64) 1 h (slV s) l ∧ dig l ∧ l.length ≤ 16 ∧ ∀ i, blkOf (slV s) i → ¬ blkOf V i ∧ ¬ blkOf W i
theorem pw_inv {a b : Nat} (h : pw a < pw b) : a < b := by
  refine Decidable.byContradiction fun q => ?_
  have := pw_le (show b ≤ a by omega)
  omega
theorem two_inv {a b : Nat} (h : (2 : Int) ^ a < 2 ^ b) : a < b := by
  refine Decidable.byContradiction fun q => ?_
  obtain ⟨k, rfl⟩ := Nat.le.dest (show b ≤ a by omega)
  have h1 : (0 : Int) < 2 ^ b := Int.pow_pos (by decide)
  have h2 : (0 : Int) < 2 ^ k := Int.pow_pos (by decide)
  rw [Int.pow_add] at h
  have := Int.mul_le_mul_of_nonneg_left (show (1 : Int) ≤ 2 ^ k by omega) (Int.le_of_lt h1)
  omega
theorem pw15 : pw 15 = 2 ^ 240 := by decide
theorem two_succ (j : Nat) : (2 : Int) ^ (j + 1) = 2 * 2 ^ j := by rw [Int.pow_succ, Int.mul_comm]
theorem two_pos (j : Nat) : (0 : Int) < 2 ^ j := Int.pow_pos (by decide)
/-- the quotient, towards the lesser -/
noncomputable def flR (neg : Bool) (A B : Int) : Int := if neg then (if 0 < A % B then -(A / B) - 1 else -(A / B)) else A / B
theorem div_uniq {A B Q S : Int} (hB : 0 < B) (h : S + Q * B = A) (h0 : 0 ≤ S) (h1 : S < B) : Q = A / B ∧ S = A % B := by
  subst h
  rw [Int.add_mul_ediv_right _ _ (by omega), Int.add_mul_emod_self_right, Int.ediv_eq_zero_of_lt h0 h1, Int.emod_eq_of_lt h0 h1]
  exact ⟨by omega, rfl⟩
/-- as it stands while the steps are laid -/
noncomputable def DJ (h0 : Heap) (B : Int) (h : Heap) (V W : Value) (j : Nat) (L M : List SlT) (dS oS : SlT) (d o : List Int) : Prop :=
  L.length = j ∧ M.length = j ∧ OW eS 1 h V L ∧ OW eS 1 h W M ∧ Fresh h0.next V ∧ Fresh h0.next W ∧ (∀ i, blkOf V i → ¬ blkOf W i) ∧
  EL h V W dS d ∧ EL h V W oS o ∧ val d = B * 2 ^ j ∧ val o = 2 ^ j ∧ (d.length ≤ 8 ∨ pw (d.length - 1) ≤ val d) ∧ (o.length ≤ 8 ∨ pw (o.length - 1) ≤ val o) ∧
  (∀ i s, L[i]? = some s → ∃ l, EL h V W s l ∧ val l = B * 2 ^ i) ∧ (∀ i s, M[i]? = some s → ∃ l, EL h V W s l ∧ val l = 2 ^ i) ∧ Ext h0 h
theorem EL.move {h h' : Heap} {V W V' W' : Value} {s : SlT} {l : List Int} (E : EL h V W s l) (k : SL (intE .i64) 1 h (slV s) l → (∀ i, blkOf (slV s) i → ¬ blkOf V i ∧ ¬ blkOf W i) → SL (intE .i64) 1 h' (slV s) l)
    (hV : ∀ i, blkOf V' i → blkOf V i ∨ h.next ≤ i) (hW : ∀ i, blkOf W' i → blkOf W i ∨ h.next ≤ i) : EL h' V' W' s l := by
  obtain ⟨e1, e2, e3, e4⟩ := E
  refine ⟨k e1 e4, e2, e3, fun i hi => ⟨fun q => ?_, fun q => ?_⟩⟩
  · rcases hV i q with q | q
    · exact (e4 i hi).1 q
    · have := e1.lt hi; omega
  · rcases hW i q with q | q
    · exact (e4 i hi).2 q
    · have := e1.lt hi; omega
theorem EL.ext {h h' : Heap} {V W : Value} {s : SlT} {l : List Int} (E : EL h V W s l) (x : Ext h h') : EL h' V W s l := ⟨E.1.ext x, E.2⟩
theorem EL.mod1 {h h' : Heap} {V W : Value} {s : SlT} {l : List Int} (E : EL h V W s l) (x : Mod (blkOf V) h h') : EL h' V W s l := ⟨E.1.modB x fun i hi => (E.2.2.2 i hi).1, E.2⟩
theorem EL.mod2 {h h' : Heap} {V W : Value} {s : SlT} {l : List Int} (E : EL h V W s l) (x : Mod (blkOf W) h h') : EL h' V W s l := ⟨E.1.modB x fun i hi => (E.2.2.2 i hi).2, E.2⟩
theorem EL.to {h : Heap} {V W V' W' : Value} {s : SlT} {l : List Int} {h0 : Heap} (E : EL h V W s l) (E0 : SL (intE .i64) 1 h0 (slV s) l) (hV : ∀ i, blkOf V' i → blkOf V i ∨ h0.next ≤ i) (hW : ∀ i, blkOf W' i → blkOf W i ∨ h0.next ≤ i) : EL h V' W' s l := by
  obtain ⟨e1, e2, e3, e4⟩ := E
  refine ⟨e1, e2, e3, fun i hi => ⟨fun q => ?_, fun q => ?_⟩⟩
  · rcases hV i q with q | q
    · exact (e4 i hi).1 q
    · have := E0.lt hi; omega
  · rcases hW i q with q | q
    · exact (e4 i hi).2 q
    · have := E0.lt hi; omega
theorem len15 {d : List Int} {A : Int} (hl : d.length ≤ 8 ∨ pw (d.length - 1) ≤ val d) (h1 : val d ≤ A) (h2 : A < pw 15) : d.length ≤ 15 := by
  rcases hl with q | q
  · omega
  · have := pw_inv (a := d.length - 1) (b := 15) (by omega)
    omega
theorem DJ.step {h0 h : Heap} {B : Int} {V W : Value} {j : Nat} {L M : List SlT} {dS oS : SlT} {d o : List Int} (D : DJ h0 B h V W j L M dS oS d o) (hB : 1 ≤ B) {A : Int} (hA : A < pw 15) (hle : val d ≤ A)
    {x1 x2 : Blk} {V' W' : Value} {h2 h3 h4 h5 : Heap} (o2 : OW eS 1 h2 V' (L ++ [dS])) (f2 : Fresh h0.next V') (m2 : Mod (blkOf V) (h.push x1) h2) (s2 : ∀ i, blkOf V' i → blkOf V i ∨ (h.push x1).next ≤ i)
    (o3 : OW eS 1 h3 W' (M ++ [oS])) (f3 : Fresh h0.next W') (m3 : Mod (blkOf W) (h2.push x2) h3) (s3 : ∀ i, blkOf W' i → blkOf W i ∨ (h2.push x2).next ≤ i) (x3 : Ext h0 h3)
    {dS' oS' : SlT} {d' o' : List Int} (sd : SL (intE .i64) 1 h4 (slV dS') d') (fd : Fresh h3.next (slV dS')) (x4 : Ext h3 h4) (dd : dig d') (vd : val d' = val d + val d) (ld : d'.length ≤ d.length ∨ d'.length ≤ d.length ∨ ((d'.length ≤ d.length + 1 ∨ d'.length ≤ d.length + 1) ∧ pw (d'.length - 1) ≤ val d'))
    (so : SL (intE .i64) 1 h5 (slV oS') o') (fo : Fresh h4.next (slV oS')) (x5 : Ext h4 h5) (do' : dig o') (vo : val o' = val o + val o) (lo : o'.length ≤ o.length ∨ o'.length ≤ o.length ∨ ((o'.length ≤ o.length + 1 ∨ o'.length ≤ o.length + 1) ∧ pw (o'.length - 1) ≤ val o')) :
    DJ h0 B h5 V' W' (j + 1) (L ++ [dS]) (M ++ [oS]) dS' oS' d' o' := by
  obtain ⟨l1, l2, w1, w2, g1, g2, dis, E1, E2, v1, v2, k1, k2, a1, a2, x0⟩ := D
  have hn1 : (h.push x1).next = h.next + 1 := next_push _ _
  have hn2 : (h2.push x2).next = h2.next + 1 := next_push _ _
  have hm2 := m2.le
  have hm3 := m3.le
  have hx4 := x4.le
  have hx5 := x5.le
  have hV : ∀ i, blkOf V' i → blkOf V i ∨ h.next ≤ i := fun i hi => (s2 i hi).imp id (by omega)
  have hW : ∀ i, blkOf W' i → blkOf W i ∨ h.next ≤ i := fun i hi => (s3 i hi).imp id (by omega)
  have T : ∀ s l, EL h V W s l → EL h5 V' W' s l := fun s l E =>
    (((((E.ext ((Ext.refl h).push x1)).mod1 m2).ext ((Ext.refl h2).push x2)).mod2 m3).ext (x4.trans x5)).to E.1 hV hW
  have hp := two_pos j
  have hvo : val o ≤ A := by
    have := Int.mul_le_mul_of_nonneg_right hB (Int.le_of_lt hp)
    omega
  have ld15 := len15 k1 hle hA
  have lo15 := len15 k2 hvo hA
  have hsd : val d' = B * 2 ^ (j + 1) := by rw [vd, v1, two_succ]; grind
  have hso : val o' = 2 ^ (j + 1) := by rw [vo, v2, two_succ]; omega
  have ge2 := fun i (hi : blkOf V' i) => o2.lt hi
  have ge3 := fun i (hi : blkOf W' i) => o3.lt hi
  refine ⟨by simp [l1], by simp [l2], ?_, o3.ext (x4.trans x5), f2, f3, ?_, ⟨sd.ext x5, dd, ?_, fun i hi => ⟨fun q => ?_, fun q => ?_⟩⟩, ⟨so, do', ?_, fun i hi => ⟨fun q => ?_, fun q => ?_⟩⟩, hsd, hso, ?_, ?_, ?_, ?_, x3.trans (x4.trans x5)⟩
  · refine ((o2.ext ((Ext.refl h2).push x2)).mod m3 fun i hi q => ?_).ext (x4.trans x5)
    rcases s2 i hi with q' | q'
    · exact dis i q' q
    · have := w2.lt q; omega
  · intro i hi q
    rcases s3 i q with q' | q'
    · rcases s2 i hi with q'' | q''
      · exact dis i q'' q'
      · have := w2.lt q'; omega
    · have := ge2 i hi; omega
  · omega
  · have := fd i hi; have := ge2 i q; omega
  · have := fd i hi; have := ge3 i q; omega
  · omega
  · have := fo i hi; have := ge2 i q; omega
  · have := fo i hi; have := ge3 i q; omega
  · rcases ld with q | q | q
    · rcases k1 with r | r
      · left; omega
      · right
        have : pw (d'.length - 1) ≤ pw (d.length - 1) := pw_le (by omega)
        have h2 := val_range E1.2.1
        omega
    · rcases k1 with r | r
      · left; omega
      · right
        have : pw (d'.length - 1) ≤ pw (d.length - 1) := pw_le (by omega)
        have h2 := val_range E1.2.1
        omega
    · exact .inr q.2
  · rcases lo with q | q | q
    · rcases k2 with r | r
      · left; omega
      · right
        have : pw (o'.length - 1) ≤ pw (o.length - 1) := pw_le (by omega)
        have h2 := val_range E2.2.1
        omega
    · rcases k2 with r | r
      · left; omega
      · right
        have : pw (o'.length - 1) ≤ pw (o.length - 1) := pw_le (by omega)
        have h2 := val_range E2.2.1
        omega
    · exact .inr q.2
  · intro i s hs
    by_cases q : i < L.length
    · rw [List.getElem?_append_left q] at hs
      obtain ⟨l, e1, e2⟩ := a1 i s hs
      exact ⟨l, T s l e1, e2⟩
    · have : i = L.length := by
        have := (List.getElem?_eq_some_iff.1 hs).1
        simp at this; omega
      subst this
      rw [List.getElem?_append_right (Nat.le_refl _), Nat.sub_self] at hs
      cases hs
      exact ⟨d, T _ _ E1, by rw [l1]; exact v1⟩
  · intro i s hs
    by_cases q : i < M.length
    · rw [List.getElem?_append_left q] at hs
      obtain ⟨l, e1, e2⟩ := a2 i s hs
      exact ⟨l, T s l e1, e2⟩
    · have : i = M.length := by
        have := (List.getElem?_eq_some_iff.1 hs).1
        simp at this; omega
      subst this
      rw [List.getElem?_append_right (Nat.le_refl _), Nat.sub_self] at hs
      cases hs
      exact ⟨o, T _ _ E2, by rw [l2]; exact v2⟩
end Go.Proofs.Ytoomhlfogeglcaa.EV
