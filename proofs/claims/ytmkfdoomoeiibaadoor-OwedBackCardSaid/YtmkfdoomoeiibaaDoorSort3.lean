/- slices.SortFunc at rows of three numbers, by the first, as the kit's contract tells it. No condition. -/
import Derived.Test.YtmkfdoomoeiibaaDoorSortG
import Derived.Test.YtmkfdoomoeiibaaDoorShelf
import Derived.Shelf.SlSortCmp.WholeK
import Derived.Shelf.SlicesG.Cmp
import Derived.WalkKit
import Derived.ProofKit
namespace Go.Proofs.YtmkfdoomoeiibaaDoor.EV
open Go Go.Proofs Go.RowKit Go.Sort
set_option linter.unusedVariables false
set_option linter.unusedSimpArgs false
abbrev I3 : Type := Int × Int × Int
noncomputable def enc3 (x : I3) : List Value := [.int .i64 x.1, .int .i64 x.2.1, .int .i64 x.2.2]
noncomputable def cf3 (x y : I3) : Int := Lib.compareInt x.1 y.1
noncomputable def dec3 : List Value → Option (List I3)
  | [] => some []
  | .int .i64 a :: .int .i64 b :: .int .i64 c :: r => match dec3 r with
    | some l => some ((a, b, c) :: l)
    | none => none
  | _ => none
theorem dec3_spec : ∀ (cs : List Value) (xs : List I3), dec3 cs = some xs → cs = xs.flatMap enc3 := by
  intro cs
  induction cs using dec3.induct with
  | case1 => intro xs h; cases h; rfl
  | case2 a b c r l hl ih =>
    intro xs h
    simp only [dec3, hl] at h
    cases h
    rw [ih l hl]
    rfl
  | case3 a b c r hl ih =>
    intro xs h
    simp only [dec3, hl] at h
    cases h
  | case4 t h1 h2 =>
    intro xs h
    unfold dec3 at h
    split at h
    · exact (h1 rfl).elim
    · exact (h2 _ _ _ _ rfl).elim
    · cases h
theorem dec3_enc : ∀ xs : List I3, dec3 (xs.flatMap enc3) = some xs
  | [] => rfl
  | x :: xs => by
    show (match dec3 (xs.flatMap enc3) with | some l => some ((x.1, x.2.1, x.2.2) :: l) | none => none) = _
    rw [dec3_enc xs]
theorem enc3_len (x : I3) : (enc3 x).length = 3 := rfl
theorem enc3_fl (x : I3) : ∀ v ∈ enc3 x, fl v = true := by
  intro v hv
  simp only [enc3, List.mem_cons, List.not_mem_nil, or_false] at hv
  rcases hv with rfl | rfl | rfl <;> rfl
theorem enc3_one (x : I3) : ∀ v ∈ enc3 x, v.oneCell' = true := by
  intro v hv
  simp only [enc3, List.mem_cons, List.not_mem_nil, or_false] at hv
  rcases hv with rfl | rfl | rfl <;> rfl
theorem lt3 (x y : I3) : ltOf cf3 x y = decide (x.1 < y.1) := by
  unfold ltOf cf3 Lib.compareInt
  by_cases h1 : x.1 < y.1
  · simp [h1]
  · by_cases h2 : y.1 < x.1 <;> simp [h1, h2]
theorem swo3 : SWO (ltOf cf3) where
  irrefl x := by rw [lt3]; simp
  trans x y z h1 h2 := by rw [lt3] at *; simp at *; omega
  ntrans x y z h1 h2 := by rw [lt3] at *; simp at *; omega
noncomputable def srt3 (xs : List I3) : List I3 := (pdq (ltOf cf3) xs.toArray 0 xs.toArray.size (Lib.bitLen xs.toArray.size) true true).toList
theorem srt3_spec (xs : List I3) : PermIn 0 xs.toArray.size xs.toArray (srt3 xs).toArray ∧ SortedIn (ltOf cf3) 0 xs.toArray.size (srt3 xs).toArray :=
  pdq_sorts (ltOf cf3) swo3 xs.toArray 0 xs.toArray.size (Lib.bitLen xs.toArray.size) true true (Nat.zero_le _) (Nat.le_refl _) (Or.inl rfl)
theorem srt3_len (xs : List I3) : (srt3 xs).length = xs.length := by
  have := (srt3_spec xs).1.1
  simpa using this
theorem srt3_perm (xs : List I3) : (srt3 xs).Perm xs := by
  have h1 := (srt3_spec xs).1.2.2
  have h2 := srt3_len xs
  have h3 : (List.take xs.length (srt3 xs)).Perm xs := by simpa [List.extract_eq_drop_take', h2] using h1
  rw [← h2, List.take_length] at h3
  exact h3
theorem srt3_sorted (xs : List I3) : (srt3 xs).Pairwise fun a b => a.1 ≤ b.1 := by
  rw [List.pairwise_iff_getElem]
  intro i j hi hj hij
  have h2 := srt3_len xs
  have := (srt3_spec xs).2 i j (Nat.zero_le _) hij (by simpa [h2] using hj)
  rw [lt3] at this
  have e1 : (srt3 xs).toArray[i]! = (srt3 xs)[i] := by simp [hi]
  have e2 : (srt3 xs).toArray[j]! = (srt3 xs)[j] := by simp [hj]
  rw [e1, e2] at this
  simpa using this
set_option maxHeartbeats 1000000 in
theorem cmp3_calls (x y : I3) (W : World) : Calls Tryd.prog 28 #[.agg #[.int .i64 x.1, .int .i64 x.2.1, .int .i64 x.2.2], .agg #[.int .i64 y.1, .int .i64 y.2.1, .int .i64 y.2.2]] W fun e w' => e = .returned (.int .i64 (Lib.compareInt x.1 y.1)) ∧ ∃ q os', w' = grow (W.drewN q) os' := by
  have hcon := fun W' => AnyG.cmp_Compare_int Tryd.cmpInt x.1 y.1 W'
  change ∀ W', Calls Tryd.prog 25 _ _ _ at hcon
  generalize Lib.compareInt x.1 y.1 = r at hcon ⊢
  go_enter Tryd.func28, Tryd.ntmps28
  go_wp2_with (go_at_call 25; refine (hcon _).mono ?_; rintro e w' ⟨rfl, rfl⟩)
  go_ret
  exact ⟨rfl, 0, _, by rw [alloc_eq_grow, alloc_eq_grow, grow_grow]; rfl⟩
theorem cmp3_lays (blk off size : Nat) (w : World) : CmpLays Tryd.prog 28 #[] enc3 3 cf3 blk off size w :=
  fun _ _ _ _ x y => cmp3_calls x y _
theorem sort3_calls (xs : List I3) (blk off cap : Nat) (w : World) (h0 : 0 < xs.length) (h1 : xs.length ≤ 1000000) (hH : HoldsK enc3 3 w blk off xs.toArray) (hblk : blk < w.heap.size) : Calls Tryd.prog 27 #[.slice (some ⟨blk, off, none⟩) xs.length cap, .func (.func 28) #[] #[]] w fun e w' => e = .returned (.tuple #[]) ∧ ∃ n os, w' = sortWorldK enc3 3 w blk off n (srt3 xs).toArray os := by
  have eg : ∀ args w, (callFunc 28 args).run Tryd.prog w = .ok (.enter 28 args) w := enters_of Tryd.func28 (by kernel_rfl) rfl
  have := AnyQ.slices_SortFunc_eq Tryd.sortL 3 Tryd.isAgg30 Tryd.sizeOf30 enc3 enc3_len enc3_one cf3 swo3 28 #[] blk off cap xs.toArray w eg (cmp3_lays blk off _ w) hH hblk (by simp; omega)
  have e : xs.toArray.size = xs.length := by simp
  rw [← e]
  exact this
noncomputable def sort3T : List Value → Heap → VH := sortT enc3 3 dec3 srt3 28
theorem sort3T_sound {args : List Value} {h : Heap} {v : Value} {h' : Heap} (hg : sort3T args h = some (v, h')) : SF1 Tryd.prog 27 args h v h' :=
  sortT_sound ⟨_, _, Tryd.func27, rfl⟩ enc3_len (by decide) enc3_fl enc3_one dec3_spec srt3_len sort3_calls hg
end Go.Proofs.YtmkfdoomoeiibaaDoor.EV
