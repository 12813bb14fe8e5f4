/- slices.SortFunc at rows of two numbers, by both, as the kit's contract tells it. No condition. -/
import Derived.Test.YtbbdhpjkibbnkaaSortG
import Derived.Test.YtbbdhpjkibbnkaaShelf
import Derived.Shelf.SlSortCmp.NoneTotal
import Derived.Shelf.SlicesG.Cmp
import Derived.WalkKit
import Derived.ProofKit
namespace Go.Proofs.Ytbbdhpjkibbnkaa.EV
open Go Go.Proofs Go.RowKit Go.Sort
set_option linter.unusedVariables false
set_option linter.unusedSimpArgs false
abbrev I2 : Type := Int × Int
noncomputable def enc2 (x : I2) : List Value := [.int .i64 x.1, .int .i64 x.2]
noncomputable def cf2 (x y : I2) : Int := if Lib.compareInt x.1 y.1 ≠ 0 then Lib.compareInt x.1 y.1 else Lib.compareInt x.2 y.2
noncomputable def dec2 : List Value → Option (List I2)
  | [] => some []
  | .int .i64 a :: .int .i64 b :: r => match dec2 r with
    | some l => some ((a, b) :: l)
    | none => none
  | _ => none
theorem dec2_spec : ∀ (cs : List Value) (xs : List I2), dec2 cs = some xs → cs = xs.flatMap enc2 := by
  intro cs
  induction cs using dec2.induct with
  | case1 => intro xs h; cases h; rfl
  | case2 a b r l hl ih =>
    intro xs h
    simp only [dec2, hl] at h
    cases h
    rw [ih l hl]
    rfl
  | case3 a b r hl ih =>
    intro xs h
    simp only [dec2, hl] at h
    cases h
  | case4 t h1 h2 =>
    intro xs h
    unfold dec2 at h
    split at h
    · exact (h1 rfl).elim
    · exact (h2 _ _ _ rfl).elim
    · cases h
theorem dec2_enc : ∀ xs : List I2, dec2 (xs.flatMap enc2) = some xs
  | [] => rfl
  | x :: xs => by
    show (match dec2 (xs.flatMap enc2) with | some l => some ((x.1, x.2) :: l) | none => none) = _
    rw [dec2_enc xs]
theorem enc2_len (x : I2) : (enc2 x).length = 2 := rfl
theorem enc2_fl (x : I2) : ∀ v ∈ enc2 x, fl v = true := by
  intro v hv
  simp only [enc2, List.mem_cons, List.not_mem_nil, or_false] at hv
  rcases hv with rfl | rfl <;> rfl
theorem enc2_one (x : I2) : ∀ v ∈ enc2 x, v.oneCell' = true := by
  intro v hv
  simp only [enc2, List.mem_cons, List.not_mem_nil, or_false] at hv
  rcases hv with rfl | rfl <;> rfl
theorem cmpInt_cases (x y : Int) : (x < y ∧ Lib.compareInt x y = -1) ∨ (x = y ∧ Lib.compareInt x y = 0) ∨ (y < x ∧ Lib.compareInt x y = 1) := by
  unfold Lib.compareInt
  by_cases h1 : x < y
  · exact .inl ⟨h1, by simp [h1]⟩
  · by_cases h2 : y < x
    · exact .inr (.inr ⟨h2, by simp [h1, h2]⟩)
    · exact .inr (.inl ⟨by omega, by simp [h1, h2]⟩)
theorem cf2_lt (x y : I2) : cf2 x y < 0 ↔ x.1 < y.1 ∨ (x.1 = y.1 ∧ x.2 < y.2) := by
  unfold cf2
  rcases cmpInt_cases x.1 y.1 with ⟨h1, e1⟩ | ⟨h1, e1⟩ | ⟨h1, e1⟩ <;> rcases cmpInt_cases x.2 y.2 with ⟨h2, e2⟩ | ⟨h2, e2⟩ | ⟨h2, e2⟩ <;> rw [e1, e2] <;> simp <;> omega
theorem lt2 (x y : I2) : ltOf cf2 x y = decide (x.1 < y.1 ∨ (x.1 = y.1 ∧ x.2 < y.2)) := by
  unfold ltOf
  rw [decide_eq_decide]
  exact cf2_lt x y
theorem swo2 : SWO (ltOf cf2) where
  irrefl x := by rw [lt2]; simp
  trans x y z h1 h2 := by rw [lt2] at *; simp at *; omega
  ntrans x y z h1 h2 := by rw [lt2] at *; simp at *; omega
noncomputable def srt2 (xs : List I2) : List I2 := (pdq (ltOf cf2) xs.toArray 0 xs.toArray.size (Lib.bitLen xs.toArray.size) true true).toList
theorem srt2_spec (xs : List I2) : PermIn 0 xs.toArray.size xs.toArray (srt2 xs).toArray ∧ SortedIn (ltOf cf2) 0 xs.toArray.size (srt2 xs).toArray :=
  pdq_sorts (ltOf cf2) swo2 xs.toArray 0 xs.toArray.size (Lib.bitLen xs.toArray.size) true true (Nat.zero_le _) (Nat.le_refl _) (Or.inl rfl)
theorem srt2_len (xs : List I2) : (srt2 xs).length = xs.length := by
  have := (srt2_spec xs).1.1
  simpa using this
theorem srt2_perm (xs : List I2) : (srt2 xs).Perm xs := by
  have h1 := (srt2_spec xs).1.2.2
  have h2 := srt2_len xs
  have h3 : (List.take xs.length (srt2 xs)).Perm xs := by simpa [List.extract_eq_drop_take', h2] using h1
  rw [← h2, List.take_length] at h3
  exact h3
theorem srt2_sorted (xs : List I2) : (srt2 xs).Pairwise fun a b => ¬ (b.1 < a.1 ∨ (b.1 = a.1 ∧ b.2 < a.2)) := by
  rw [List.pairwise_iff_getElem]
  intro i j hi hj hij
  have h2 := srt2_len xs
  have := (srt2_spec xs).2 i j (Nat.zero_le _) hij (by simpa [h2] using hj)
  rw [lt2] at this
  have e1 : (srt2 xs).toArray[i]! = (srt2 xs)[i] := by simp [hi]
  have e2 : (srt2 xs).toArray[j]! = (srt2 xs)[j] := by simp [hj]
  rw [e1, e2] at this
  exact of_decide_eq_false this
set_option maxHeartbeats 1000000 in
theorem cmp2_calls (x y : I2) (W : World) : Calls Try.prog 43 #[.agg #[.int .i64 x.1, .int .i64 x.2], .agg #[.int .i64 y.1, .int .i64 y.2]] W fun e w' => e = .returned (.int .i64 (cf2 x y)) ∧ ∃ q os', w' = grow (W.drewN q) os' := by
  have hcon := fun W' => AnyG.cmp_Compare_int Try.cmpInt64 x.1 y.1 W'
  change ∀ W', Calls Try.prog 25 _ _ _ at hcon
  have hcon2 := fun W' => AnyG.cmp_Compare_int Try.cmpInt x.2 y.2 W'
  change ∀ W', Calls Try.prog 47 _ _ _ at hcon2
  unfold cf2
  generalize Lib.compareInt x.1 y.1 = r at hcon ⊢
  generalize Lib.compareInt x.2 y.2 = r2 at hcon2 ⊢
  by_cases hr : r = 0
  · rw [if_neg (by simp [hr])]
    go_enter Try.func43, Try.ntmps43
    go_wp2_with (first | (go_at_call 25; refine (hcon _).mono ?_; rintro e w' ⟨rfl, rfl⟩) | (go_at_call 47; refine (hcon2 _).mono ?_; rintro e w' ⟨rfl, rfl⟩))
    go_ret
    exact ⟨rfl, 0, _, by rw [alloc_eq_grow, alloc_eq_grow, grow_grow]; rfl⟩
  · rw [if_pos hr]
    go_enter Try.func43, Try.ntmps43
    go_wp2_with (first | (go_at_call 25; refine (hcon _).mono ?_; rintro e w' ⟨rfl, rfl⟩) | (go_at_call 47; refine (hcon2 _).mono ?_; rintro e w' ⟨rfl, rfl⟩))
    go_ret
    exact ⟨rfl, 0, _, by rw [alloc_eq_grow, alloc_eq_grow, grow_grow]; rfl⟩
theorem cmp2_lays (blk off size : Nat) (w : World) : CmpLays Try.prog 43 #[] enc2 2 cf2 blk off size w :=
  fun _ _ _ _ x y => cmp2_calls x y _
theorem sort2_calls (xs : List I2) (blk off cap : Nat) (w : World) (h0 : 0 < xs.length) (h1 : xs.length ≤ 1000000) (hH : HoldsK enc2 2 w blk off xs.toArray) (hblk : blk < w.heap.size) : Calls Try.prog 45 #[.slice (some ⟨blk, off, none⟩) xs.length cap, .func (.func 43) #[] #[]] w fun e w' => e = .returned (.tuple #[]) ∧ ∃ n os, w' = sortWorldK enc2 2 w blk off n (srt2 xs).toArray os := by
  have eg : ∀ args w, (callFunc 43 args).run Try.prog w = .ok (.enter 43 args) w := enters_of Try.func43 (by kernel_rfl) rfl
  have := AnyQ.slices_SortFunc_eq Try.sortL 2 Try.isAgg69 Try.sizeOf69 enc2 enc2_len enc2_one cf2 swo2 43 #[] blk off cap xs.toArray w eg (cmp2_lays blk off _ w) hH hblk (by simp; omega)
  have e : xs.toArray.size = xs.length := by simp
  rw [← e]
  exact this
theorem sort2_none (p : Option Addr) (cap : Nat) (fv : Value) (w : World) : Calls Try.prog 45 #[.slice p 0 cap, fv] w fun e w' => e = .returned (.tuple #[]) ∧ w' = w :=
  AnyF.slices_SortFunc_none Try.sortL p cap fv w
noncomputable def sort2T (args : List Value) (h : Heap) : VH := match args with
  | [.slice a n c, .func g x y] => cnd (Nat.beq n 0) (some (.tuple ⟨[]⟩, h)) (sortT enc2 2 dec2 srt2 43 [.slice a n c, .func g x y] h)
  | _ => none
theorem sort2T_sound {args : List Value} {h : Heap} {v : Value} {h' : Heap} (hg : sort2T args h = some (v, h')) : SF1 Try.prog 45 args h v h' := by
  unfold sort2T at hg
  split at hg
  · rename_i a n c g x y
    cases hn : Nat.beq n 0 with
    | false =>
      rw [hn] at hg
      exact sortT_sound ⟨_, _, Try.func45, rfl⟩ enc2_len (by decide) enc2_fl enc2_one dec2_spec srt2_len sort2_calls hg
    | true =>
      rw [hn] at hg
      cases hg
      have hn := Nat.eq_of_beq_eq_true hn
      subst hn
      refine ⟨⟨_, _, Try.func45, rfl⟩, fun M w0 w args' m H hl => ?_⟩
      obtain ⟨y1, q1, e1, k1, l1⟩ := hl.cons_inv
      obtain ⟨y2, q2, e2, k2, l2⟩ := l1.cons_inv
      have e3 := l2.nil_inv
      subst e3
      subst e2
      obtain ⟨b', c', rfl⟩ := slice_any_inv k1
      have ha : args' = #[.slice b' 0 c', y2] := by
        cases args'
        simp only at e1
        subst e1
        rfl
      subst ha
      refine CallsIn.mono (callsIn_wide.2 (sort2_none b' c' y2 w)) ?_
      rintro e' w' ⟨rfl, rfl⟩
      exact ⟨[], .tuple #[], rfl, by rw [List.append_nil]; exact H, VR.undef _⟩
  · cases hg
end Go.Proofs.Ytbbdhpjkibbnkaa.EV
