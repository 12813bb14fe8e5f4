/- Loads, plainly: each move brings them nearer. No condition. -/
import Derived.Test.YtnopeboieicipaaLoad4
namespace Go.Proofs.Ytnopeboieicipaa.EV
open Go Go.Proofs
set_option linter.unusedVariables false
set_option linter.unusedSimpArgs false
noncomputable def cntL (x : Int) : List Int → Nat
  | [] => 0
  | y :: l => (if y = x then 1 else 0) + cntL x l
noncomputable def sumL : List Int → Int
  | [] => 0
  | y :: l => y + sumL l
noncomputable def sumC : List Tk → Nat → Int
  | [], _ => 0
  | t :: l, c => (if t.core = (c : Int) then t.w else 0) + sumC l c
theorem sumL_set : ∀ (l : List Int) (i : Nat) (x : Int), i < l.length → sumL (l.set i x) = sumL l - l.getD i 0 + x
  | y :: l, 0, x, _ => by show x + sumL l = y + sumL l - y + x; omega
  | y :: l, i + 1, x, h => by
    have := sumL_set l i x (by simpa using h)
    show y + sumL (l.set i x) = y + sumL l - l.getD i 0 + x
    omega
theorem cntL_set (z : Int) : ∀ (l : List Int) (i : Nat) (x : Int), i < l.length → (cntL z (l.set i x) : Int) = cntL z l - (if l.getD i 0 = z then 1 else 0) + (if x = z then 1 else 0)
  | y :: l, 0, x, _ => by
    show (((if x = z then 1 else 0) + cntL z l : Nat) : Int) = (((if y = z then 1 else 0) + cntL z l : Nat) : Int) - (if y = z then 1 else 0) + (if x = z then 1 else 0)
    by_cases h1 : x = z <;> by_cases h2 : y = z <;> simp only [h1, h2, if_true, if_false] <;> omega
  | y :: l, i + 1, x, h => by
    have := cntL_set z l i x (by simpa using h)
    show (((if y = z then 1 else 0) + cntL z (l.set i x) : Nat) : Int) = (((if y = z then 1 else 0) + cntL z l : Nat) : Int) - (if l.getD i 0 = z then 1 else 0) + (if x = z then 1 else 0)
    omega
theorem cntL_len (z : Int) : ∀ l : List Int, cntL z l ≤ l.length
  | [] => Nat.le_refl _
  | y :: l => by
    have := cntL_len z l
    show (if y = z then 1 else 0) + cntL z l ≤ l.length + 1
    split <;> omega
theorem cntL_sum (z : Int) (hz : 0 ≤ z) : ∀ l : List Int, (∀ x ∈ l, 0 ≤ x) → cntL z l * z ≤ sumL l
  | [], _ => by simp [cntL, sumL]
  | y :: l, h => by
    have ih := cntL_sum z hz l fun x hx => h x (List.mem_cons_of_mem _ hx)
    have hy := h y (List.mem_cons_self ..)
    show (((if y = z then 1 else 0) + cntL z l : Nat) : Int) * z ≤ y + sumL l
    by_cases q : y = z
    · subst q
      rw [if_pos rfl, Int.natCast_add, Int.add_mul]
      simp only [Int.natCast_one, Int.one_mul]
      omega
    · rw [if_neg q, Nat.zero_add]; omega
theorem cntL_pos (z : Int) : ∀ (l : List Int) (i : Nat), l[i]? = some z → 0 < cntL z l
  | y :: l, 0, h => by
    simp at h
    show 0 < (if y = z then 1 else 0) + cntL z l
    rw [if_pos h]; omega
  | y :: l, i + 1, h => by
    have := cntL_pos z l i (by simpa using h)
    show 0 < (if y = z then 1 else 0) + cntL z l
    omega
theorem sumC_set : ∀ (l : List Tk) (a : Nat) (t u : Tk) (c : Nat), l[a]? = some t → sumC (l.set a u) c = sumC l c - (if t.core = (c : Int) then t.w else 0) + (if u.core = (c : Int) then u.w else 0)
  | x :: l, 0, t, u, c, h => by
    simp at h
    subst h
    show (if u.core = (c : Int) then u.w else 0) + sumC l c = (if x.core = (c : Int) then x.w else 0) + sumC l c - (if x.core = (c : Int) then x.w else 0) + (if u.core = (c : Int) then u.w else 0)
    omega
  | x :: l, a + 1, t, u, c, h => by
    have := sumC_set l a t u c (by simpa using h)
    show (if x.core = (c : Int) then x.w else 0) + sumC (l.set a u) c = (if x.core = (c : Int) then x.w else 0) + sumC l c - (if t.core = (c : Int) then t.w else 0) + (if u.core = (c : Int) then u.w else 0)
    omega
theorem sumC_app (t : Tk) (c : Nat) : ∀ l : List Tk, sumC (l ++ [t]) c = sumC l c + (if t.core = (c : Int) then t.w else 0)
  | [] => by show (if t.core = (c : Int) then t.w else 0) + 0 = 0 + _; omega
  | x :: l => by
    have := sumC_app t c l
    show (if x.core = (c : Int) then x.w else 0) + sumC (l ++ [t]) c = (if x.core = (c : Int) then x.w else 0) + sumC l c + _
    omega
noncomputable def bnd (n : Nat) : Nat := if n * 16 ≤ 240 then 16 else 240 / n
noncomputable def Bp : Nat → Nat
  | 0 => 0
  | n + 1 => Bp n + bnd n
theorem Bp_mono : ∀ {a b : Nat}, a ≤ b → Bp a ≤ Bp b
  | a, 0, h => by have : a = 0 := by omega
                  subst this; exact Nat.le_refl _
  | a, b + 1, h => by
    by_cases q : a = b + 1
    · subst q; exact Nat.le_refl _
    · have := Bp_mono (show a ≤ b by omega)
      show Bp a ≤ Bp b + bnd b
      omega
theorem le_bnd {k n : Nat} (h1 : k ≤ 16) (h2 : k * n ≤ 240) : k ≤ bnd n := by
  unfold bnd
  split
  · exact h1
  · rename_i q
    rw [Nat.le_div_iff_mul_le (by rcases Nat.eq_zero_or_pos n with h | h; subst h; simp at q; exact h)]
    exact h2
noncomputable def mxL (ld : List Int) : Int := mxN ld ld.length
/-- how far it is -/
noncomputable def pot (ld : List Int) : Nat := cntL (mxL ld) ld + Bp (mxL ld).toNat
structure Sane (ld : List Int) : Prop where
  len : 0 < ld.length
  len16 : ld.length ≤ 16
  pos : ∀ x ∈ ld, 0 ≤ x
  sum : sumL ld ≤ 240
section
variable {ld : List Int}
theorem mxL_mem {ld : List Int} (h : 0 < ld.length) : mxL ld ∈ ld := by
  obtain ⟨i, hi, e⟩ := mxN_mem ld ld.length h
  unfold mxL
  rw [← e, getD_of (List.getElem?_eq_getElem hi)]
  exact List.getElem_mem hi
theorem mxL_ge {ld : List Int} {x : Int} (h : x ∈ ld) : x ≤ mxL ld := by
  obtain ⟨i, hi, rfl⟩ := List.getElem_of_mem h
  have := mxN_ge ld ld.length i hi
  rwa [getD_of (List.getElem?_eq_getElem hi)] at this
theorem Sane.mx (s : Sane ld) : 0 ≤ mxL ld ∧ mxL ld ≤ 240 := by
  have h1 := s.pos _ (mxL_mem s.len)
  have h2 := cntL_sum (mxL ld) h1 ld s.pos
  have h3 := s.sum
  obtain ⟨i, hi, e⟩ := List.getElem_of_mem (mxL_mem s.len)
  have h4 := cntL_pos (mxL ld) ld i (by rw [List.getElem?_eq_getElem hi, e])
  have h5 : 1 * mxL ld ≤ cntL (mxL ld) ld * mxL ld := Int.mul_le_mul_of_nonneg_right (by omega) h1
  omega
theorem Sane.cnt (s : Sane ld) : cntL (mxL ld) ld ≤ bnd (mxL ld).toNat := by
  have h1 := s.mx
  have h2 := cntL_sum (mxL ld) h1.1 ld s.pos
  have h3 := s.sum
  refine le_bnd (Nat.le_trans (cntL_len _ _) s.len16) ?_
  have : ((cntL (mxL ld) ld * (mxL ld).toNat : Nat) : Int) ≤ 240 := by
    rw [Int.natCast_mul, Int.toNat_of_nonneg h1.1]
    omega
  omega
theorem Bp241 : Bp 241 ≤ 825 := by decide +kernel
theorem Sane.pot (s : Sane ld) : pot ld ≤ 825 := by
  have h1 := s.cnt
  have h2 := s.mx
  have h3 := Bp_mono (show (mxL ld).toNat + 1 ≤ 241 by omega)
  have h4 : Bp ((mxL ld).toNat + 1) = Bp (mxL ld).toNat + bnd (mxL ld).toNat := rfl
  have := Bp241
  unfold EV.pot
  omega
end
/-- a move -/
noncomputable def stp (ld : List Int) (d c : Nat) (w : Int) : List Int := (ld.set d (ld.getD d 0 - w)).set c (ld.getD c 0 + w)
theorem getD_set_eq {l : List Int} {i : Nat} {x : Int} (h : i < l.length) : (l.set i x).getD i 0 = x := by
  rw [List.getD_eq_getElem?_getD, List.getElem?_set_self h]; rfl
theorem getD_set_ne' {l : List Int} {i j : Nat} {x : Int} (h : i ≠ j) : (l.set i x).getD j 0 = l.getD j 0 := by
  rw [List.getD_eq_getElem?_getD, List.getElem?_set_ne h, List.getD_eq_getElem?_getD]
theorem getD_nn {ld : List Int} (hp : ∀ x ∈ ld, 0 ≤ x) {i : Nat} (hi : i < ld.length) : 0 ≤ ld.getD i 0 := by
  rw [getD_of (List.getElem?_eq_getElem hi)]; exact hp _ (List.getElem_mem hi)
theorem stp_len (ld : List Int) (d c : Nat) (w : Int) : (stp ld d c w).length = ld.length := by unfold stp; rw [List.length_set, List.length_set]
theorem stp_at {ld : List Int} {d c : Nat} {w : Int} (hd : d < ld.length) (hc : c < ld.length) (hdc : d ≠ c) (i : Nat) : (stp ld d c w).getD i 0 = ld.getD i 0 - (if (d : Int) = i then w else 0) + (if (c : Int) = i then w else 0) := by
  unfold stp
  by_cases q : c = i
  · subst q
    rw [getD_set_eq (by rw [List.length_set]; exact hc), if_pos rfl, if_neg (by omega)]; omega
  · rw [getD_set_ne' q, if_neg (by omega : ¬ (c : Int) = i)]
    by_cases q2 : d = i
    · subst q2
      rw [getD_set_eq hd, if_pos rfl]; omega
    · rw [getD_set_ne' q2, if_neg (by omega : ¬ (d : Int) = i)]; omega
theorem stp_mem {ld : List Int} {d c : Nat} {w : Int} (hd : d < ld.length) (hc : c < ld.length) (hdc : d ≠ c) {x : Int} (hx : x ∈ stp ld d c w) : (∃ y ∈ ld, x = y) ∨ x = ld.getD d 0 - w ∨ x = ld.getD c 0 + w := by
  unfold stp at hx
  rcases List.mem_or_eq_of_mem_set hx with h | h
  · rcases List.mem_or_eq_of_mem_set h with h | h
    · exact .inl ⟨x, h, rfl⟩
    · exact .inr (.inl h)
  · exact .inr (.inr h)
theorem stp_sane {ld : List Int} (s : Sane ld) {d c : Nat} {w : Int} (hd : d < ld.length) (hc : c < ld.length) (hdc : d ≠ c) (h0 : 0 ≤ w) (hw : w ≤ ld.getD d 0) : Sane (stp ld d c w) := by
  refine ⟨by rw [stp_len]; exact s.len, by rw [stp_len]; exact s.len16, fun x hx => ?_, ?_⟩
  · rcases stp_mem hd hc hdc hx with ⟨y, hy, rfl⟩ | rfl | rfl
    · exact s.pos _ hy
    · omega
    · have := getD_nn s.pos hc
      omega
  · have := s.sum
    unfold stp
    rw [sumL_set _ _ _ (by rw [List.length_set]; exact hc), sumL_set _ _ _ hd, getD_set_ne' hdc]
    omega
theorem stp_pot {ld : List Int} (s : Sane ld) {d c : Nat} {w : Int} (hd : d < ld.length) (hc : c < ld.length) (hdc : d ≠ c) (h1 : 1 ≤ w) (hw : w ≤ ld.getD d 0) (ht : ld.getD d 0 = mxL ld) (hlt : ld.getD c 0 + w < mxL ld) : pot (stp ld d c w) + 1 ≤ pot ld ∧ mxL (stp ld d c w) ≤ mxL ld := by
  have s' := stp_sane s hd hc hdc (by omega) hw
  have hle : mxL (stp ld d c w) ≤ mxL ld := by
    rcases stp_mem hd hc hdc (mxL_mem s'.len) with ⟨y, hy, e⟩ | e | e
    · rw [e]; exact mxL_ge hy
    · omega
    · omega
  refine ⟨?_, hle⟩
  have hc1 : (cntL (mxL ld) (stp ld d c w) : Int) = cntL (mxL ld) ld - 1 := by
    unfold stp
    rw [cntL_set _ _ _ _ (by rw [List.length_set]; exact hc), cntL_set _ _ _ _ hd, getD_set_ne' hdc, ht, if_pos rfl, if_neg (by omega), if_neg (by omega), if_neg (by omega)]
    omega
  unfold pot
  by_cases q : mxL (stp ld d c w) = mxL ld
  · rw [q]; omega
  · have h2 := s'.cnt
    have h3 := s'.mx
    have h4 := Bp_mono (show (mxL (stp ld d c w)).toNat + 1 ≤ (mxL ld).toNat by omega)
    have h5 : Bp ((mxL (stp ld d c w)).toNat + 1) = Bp (mxL (stp ld d c w)).toNat + bnd (mxL (stp ld d c w)).toNat := rfl
    omega
theorem topN_mx {ld : List Int} (h : 0 < ld.length) : ld.getD (topN ld) 0 = mxL ld := getD_of (topN_at ld h).1
/-- what stays -/
structure JJ (n : Nat) (l0 : List Tk) (mx : Int) (ld : List Int) (l : List Tk) : Prop where
  len : ld.length = n
  ll : l.length = l0.length
  tk : ∀ (i : Nat) (t : Tk), l[i]? = some t → TkOk n t ∧ hasI t.mask t.core = true ∧ ∃ t0 : Tk, l0[i]? = some t0 ∧ t.id = t0.id ∧ t.w = t0.w
  sane : Sane ld
  top : mxL ld ≤ mx
  sums : ∀ c, c < n → ld.getD c 0 = sumC l c
theorem JJ.step {n : Nat} {l0 l : List Tk} {mx : Int} {ld : List Int} (j : JJ n l0 mx ld l) {a c : Nat} (h : mvN ld l l.length = some (a, c)) : ∃ (t : Tk) (d : Nat), l[a]? = some t ∧ t.core = (d : Int) ∧ d < n ∧ c < n ∧ d ≠ c ∧ t.w ≤ ld.getD d 0 ∧ JJ n l0 mx (stp ld d c t.w) (l.set a ⟨t.id, t.w, (c : Int), t.mask⟩) ∧ pot (stp ld d c t.w) + 1 ≤ pot ld := by
  obtain ⟨ha, t, ht, hto, hcore, hlt⟩ := mvN_is ld l _ a c h
  obtain ⟨⟨w1, w20, k0, k1, hM⟩, hmask, t0, ht0, e1, e2⟩ := j.tk a t ht
  obtain ⟨_, hc, hhas⟩ := lstN_lt ld _ 16 c hto
  have hl := j.len
  have h16 := j.sane.len16
  have htop := topN_mx j.sane.len
  have hd : topN ld < ld.length := (List.getElem?_eq_some_iff.1 (topN_at ld j.sane.len).1).1
  rw [hcore, Int.toNat_natCast, anN_has _ _ _ (by omega) (by omega)] at hhas
  simp only [Bool.and_eq_true, Bool.not_eq_true', decide_eq_false_iff_not] at hhas
  have hdc : topN ld ≠ c := fun e => hhas.2 e.symm
  rw [htop] at hlt
  have hc0 := getD_nn j.sane.pos hc
  have hw : t.w ≤ ld.getD (topN ld) 0 := by rw [htop]; omega
  obtain ⟨p1, p2⟩ := stp_pot j.sane hd hc hdc w1 hw htop hlt
  refine ⟨t, topN ld, ht, hcore, by omega, by omega, hdc, hw, ⟨by rw [stp_len]; exact hl, by rw [List.length_set]; exact j.ll, fun i u hu => ?_, stp_sane j.sane hd hc hdc (by omega) hw, by have := j.top; omega, fun i hi => ?_⟩, p1⟩
  · rw [List.getElem?_set] at hu
    split at hu
    · rename_i q
      subst q
      cases hu
      refine ⟨⟨w1, w20, by show (0 : Int) ≤ c; omega, by show (c : Int) < n; omega, hM⟩, ?_, t0, ht0, e1, e2⟩
      unfold hasI
      show (decide (0 ≤ (c : Int)) && (decide ((c : Int) < 16) && hasN t.mask (c : Int).toNat)) = true
      rw [Int.toNat_natCast, hhas.1, decide_eq_true (by omega), decide_eq_true (by omega)]; rfl
    · exact j.tk i u hu
  · rw [stp_at hd hc hdc, sumC_set l a t _ i ht, hcore, j.sums i hi]
end Go.Proofs.Ytnopeboieicipaa.EV
