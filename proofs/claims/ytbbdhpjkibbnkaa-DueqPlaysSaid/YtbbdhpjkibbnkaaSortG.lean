/- Sorting by a comparison, told beside: what the kit's contract of slices.SortFunc says of a world, in the evaluator's terms. No condition. -/
import Derived.Test.YtbbdhpjkibbnkaaSy7
import Derived.Shelf.SlSortCmp.InsertionK
import Derived.Shelf.SlicesQ.Reverse
import Derived.Sort.AssemblyPlain
namespace Go.Proofs.Ytbbdhpjkibbnkaa.EV
open Go Go.Proofs Go.RowKit Go.Sort
set_option linter.unusedVariables false
set_option linter.unusedSimpArgs false
section
variable {α : Type} [Inhabited α] {enc : α → List Value} {k : Nat}
theorem flat_get (hk : ∀ x, (enc x).length = k) (h1 : 1 ≤ k) : ∀ (l : List α) (t : Nat), t < l.length * k → (l.flatMap enc)[t]? = some ((enc l[t / k]!)[t % k]!)
  | [], t, h => by simp at h
  | x :: l, t, h => by
    rw [List.flatMap_cons]
    by_cases q : t < k
    · rw [List.getElem?_append_left (by rw [hk]; exact q), Nat.div_eq_of_lt q, Nat.mod_eq_of_lt q]
      show _ = some (enc x)[t]!
      have hq : t < (enc x).length := by rw [hk]; exact q
      rw [getElem!_pos (enc x) t hq, List.getElem?_eq_getElem hq]
    · have hq : k ≤ t := by omega
      rw [List.getElem?_append_right (by rw [hk]; exact hq), hk]
      have h2 : t - k < l.length * k := by
        rw [List.length_cons, Nat.add_mul, Nat.one_mul] at h
        omega
      rw [flat_get hk h1 l (t - k) h2]
      have e1 : t / k = (t - k) / k + 1 := by rw [← Nat.sub_add_cancel hq, Nat.add_div_right _ h1]; simp
      have e2 : t % k = (t - k) % k := by
        conv => lhs; rw [← Nat.sub_add_cancel hq]
        exact Nat.add_mod_right _ _
      rw [e1, e2]
      congr 2
theorem flatK_get (hk : ∀ x, (enc x).length = k) (h1 : 1 ≤ k) (l : List α) (t : Nat) (h : t < l.length * k) : (l.flatMap enc)[t]? = some (flatK enc k l.toArray)[t]! := by
  rw [get_flatK _ _ _ _ (by simpa using h), flat_get hk h1 l t h]
  rw [show l[t / k]! = l.toArray[t / k]! by rw [← Array.getElem!_toList]]
omit [Inhabited α] in
theorem flat_len (hk : ∀ x, (enc x).length = k) (l : List α) : (l.flatMap enc).length = l.length * k := by
  induction l with
  | nil => simp
  | cons x l ih => rw [List.flatMap_cons, List.length_append, hk, ih, List.length_cons, Nat.add_mul, Nat.one_mul, Nat.add_comm]
variable {M : List Loc} {w0 : Base} {w : World} {h h' : Heap}
theorem holds_rd (hk : ∀ x, (enc x).length = k) (h1 : 1 ≤ k) (hfl : ∀ x, ∀ v ∈ enc x, flat v = true) (H : HR M w0 h w) {b o es : Nat} {l : Loc} {c : List Value} {xs : List α} (hl : M[b]? = some l) (hg : h.get b = .cells c es) (hrd : h.rd b o (xs.length * k) = some (xs.flatMap enc)) : HoldsK enc k w l.blk (l.sh + o) xs.toArray := by
  intro j hj
  rw [size_flatK] at hj
  have hj' : j < xs.length * k := by simpa using hj
  obtain ⟨_, c', hLR, hcell⟩ := H.rd hl hrd
  have hx := flatK_get hk h1 xs j hj'
  have hlen := flat_len hk xs
  obtain ⟨y, hy⟩ : ∃ y, c'[j]? = some y := ⟨_, List.getElem?_eq_getElem (by rw [← hLR.1, hlen]; exact hj')⟩
  have hv := hLR.2 j _ _ hx hy
  have hmem := List.mem_of_getElem? hx
  obtain ⟨x, _, hx2⟩ := List.mem_flatMap.1 hmem
  rw [hv.flat_eq (hfl x _ hx2)] at hy
  refine ⟨hcell j _ hy, ?_⟩
  have hb := H.blk b l hl
  rw [hg] at hb
  obtain ⟨_, _, cc, e, fr, h3, h4, h5, h6, _⟩ := hb
  have hle : o + xs.length * k ≤ c.length := by
    unfold Heap.rd at hrd
    rw [hg] at hrd
    simp only at hrd
    cases hq : Nat.ble (o + xs.length * k) c.length with
    | true => exact Nat.le_of_ble_eq_true hq
    | false => rw [hq] at hrd; cases hrd
  have : ¬ (fr.1 ≤ l.sh + o + j ∧ l.sh + o + j < fr.2) := by rcases h5 with h5 | h5 <;> omega
  simp only [World.frozen?, h3]
  cases hd : (decide (fr.1 ≤ l.sh + o + j) && decide (l.sh + o + j < fr.2)) with
  | false => rfl
  | true => simp at hd; exact absurd hd this
theorem setMany_all (hk : ∀ x, (enc x).length = k) (h1 : 1 ≤ k) (xs ys : List α) (hl : ys.length = xs.length) : setMany (flatK enc k xs.toArray) 0 (ys.flatMap enc) = flatK enc k ys.toArray := by
  refine ext_get! (by simp [hl]) fun t ht => ?_
  have ht' : t < xs.length * k := by simpa using ht
  rw [get_setMany _ _ _ t (by simpa using ht'), if_pos ⟨Nat.zero_le _, by rw [flat_len hk, hl]; omega⟩, Nat.sub_zero]
  have := flatK_get hk h1 ys t (by rw [hl]; exact ht')
  rw [List.getElem!_eq_getElem?_getD, this]
  rfl
theorem sorted_HR (hk : ∀ x, (enc x).length = k) (h1 : 1 ≤ k) (hfl : ∀ x, ∀ v ∈ enc x, fl v = true) (ho : ∀ x, ∀ v ∈ enc x, v.oneCell' = true) (H : HR M w0 h w) {b o : Nat} {l : Loc} {xs ys : List α} (hl : M[b]? = some l) (hw : h.wr b o (ys.flatMap enc) = some h') (hlen : ys.length = xs.length) (hH : HoldsK enc k w l.blk (l.sh + o) xs.toArray) (P : Program) (n : Nat) (os : Array Obj) :
    HR M w0 h' (sortWorldK enc k w l.blk (l.sh + o) n ys.toArray os) := by
  have hall : (ys.flatMap enc).all fl = true := List.all_eq_true.2 fun v hv => by
    obtain ⟨x, _, hx⟩ := List.mem_flatMap.1 hv
    exact hfl x v hx
  obtain ⟨w1, r1, H1⟩ := H.wr P hl hw (LR.of_flat0 M hall)
  have r2 := stores_of_holds P hH 0 (ys.flatMap enc) (by rw [size_flatK, flat_len hk]; simp [hlen]) (fun v hv => by
    obtain ⟨x, _, hx⟩ := List.mem_flatMap.1 hv
    exact ho x v hx)
  rw [Nat.add_zero] at r2
  have e1 : w1 = w.setCells l.blk (l.sh + o) (ys.flatMap enc) := by
    have := r1.symm.trans r2
    injection this
  have e2 : w.setCells l.blk (l.sh + o) (ys.flatMap enc) = putRowK enc k w l.blk (l.sh + o) ys.toArray := by
    have e3 := putRowK_self enc k w l.blk (l.sh + o) xs.toArray hH
    have e4 := setCells_putRow w l.blk (l.sh + o) (ys.flatMap enc) 0 (flatK enc k xs.toArray) (by rw [size_flatK, flat_len hk]; simp [hlen])
    rw [setMany_all hk h1 xs ys hlen, Nat.add_zero] at e4
    conv => lhs; rw [← e3]
    exact e4
  rw [e1, e2] at H1
  have e5 : sortWorldK enc k w l.blk (l.sh + o) n ys.toArray os = grow ((putRowK enc k w l.blk (l.sh + o) ys.toArray).drewN n) os := rfl
  rw [e5]
  exact H1.quiet ⟨rfl, rfl, rfl, by show _ ≤ (_ ++ os).size; rw [Array.size_append]; exact Nat.le_add_right _ _, fun i hi => by show (_ ++ os)[i]? = _; rw [Array.getElem?_append, if_pos (show i < ((putRowK enc k w l.blk (l.sh + o) ys.toArray).drewN n).heap.size from hi)]; rfl⟩
/-- what it answers: the row's cells told anew, sorted -/
noncomputable def sortT (enc : α → List Value) (k : Nat) (dec : List Value → Option (List α)) (srt : List α → List α) (g : FuncId) (args : List Value) (h : Heap) : VH := match args with
  | [.slice (some ⟨b, o, none⟩) n c, .func (.func g') fa fb] => cnd (Nat.beq g g' && (fa.toList.isEmpty && (fb.toList.isEmpty && (Nat.blt 0 n && Nat.ble n 1000000)))) (ob (h.rd b o (n * k)) fun cs => ob (dec cs) fun xs => cnd (Nat.beq xs.length n) (ob (h.wr b o ((srt xs).flatMap enc)) fun h' => some (.tuple ⟨[]⟩, h')) none) none
  | _ => none
theorem sortT_sound {P : Program} {f g : FuncId} (hbody : ∃ fn c, P.funcs[f]? = some fn ∧ fn.body = some c) (hk : ∀ x, (enc x).length = k) (h1 : 1 ≤ k) (hfl : ∀ x, ∀ v ∈ enc x, fl v = true) (ho : ∀ x, ∀ v ∈ enc x, v.oneCell' = true)
    {dec : List Value → Option (List α)} {srt : List α → List α} (hdec : ∀ cs xs, dec cs = some xs → cs = xs.flatMap enc) (hsrt : ∀ xs, (srt xs).length = xs.length)
    (hcalls : ∀ (xs : List α) (blk off cap : Nat) (w : World), 0 < xs.length → xs.length ≤ 1000000 → HoldsK enc k w blk off xs.toArray → blk < w.heap.size → Calls P f #[.slice (some ⟨blk, off, none⟩) xs.length cap, .func (.func g) #[] #[]] w fun e w' => e = .returned (.tuple #[]) ∧ ∃ n os, w' = sortWorldK enc k w blk off n (srt xs).toArray os)
    {args : List Value} {v : Value} (hg : sortT enc k dec srt g args h = some (v, h')) : SF1 P f args h v h' := by
  unfold sortT at hg
  split at hg
  · rename_i b o n c g' fa fb
    cases hr : (Nat.beq g g' && (fa.toList.isEmpty && (fb.toList.isEmpty && (Nat.blt 0 n && Nat.ble n 1000000)))) with
    | false => rw [hr] at hg; cases hg
    | true =>
      rw [hr] at hg
      simp only [Bool.and_eq_true] at hr
      obtain ⟨r1, r2, r3, r4, r5⟩ := hr
      have r1 := Nat.eq_of_beq_eq_true r1
      subst r1
      have r4 : 0 < n := by rw [Nat.blt_eq] at r4; exact r4
      have r5 := Nat.le_of_ble_eq_true r5
      have r2 : fa.toList = [] := List.isEmpty_iff.1 r2
      have r3 : fb.toList = [] := List.isEmpty_iff.1 r3
      simp only [cnd_true] at hg
      obtain ⟨cs, hrd, hg⟩ := ob_inv hg
      obtain ⟨xs, hdc, hg⟩ := ob_inv hg
      cases hq : Nat.beq xs.length n with
      | false => rw [hq] at hg; cases hg
      | true =>
        rw [hq] at hg
        simp only [cnd_true] at hg
        obtain ⟨h2, hw, hg⟩ := ob_inv hg
        cases hg
        have hq := Nat.eq_of_beq_eq_true hq
        subst hq
        have hcs := hdec _ _ hdc
        subst hcs
        refine ⟨hbody, fun M w0 w args' m H hl => ?_⟩
        obtain ⟨y1, q1, e1, k1, l1⟩ := hl.cons_inv
        obtain ⟨y2, q2, e2, k2, l2⟩ := l1.cons_inv
        have e3 := l2.nil_inv
        subst e3
        subst e2
        have e4 : y2 = .func (.func g) #[] #[] := by
          cases k2 with
          | fn _ _ _ a' b' s1 s2 s3 s4 =>
            rw [r2] at s1
            rw [r3] at s2
            have e5 : a' = #[] := Array.toList_inj.1 (List.length_eq_zero_iff.1 s1.symm)
            have e6 : b' = #[] := Array.toList_inj.1 (List.length_eq_zero_iff.1 s2.symm)
            rw [e5, e6]
        subst e4
        have ha : args' = #[y1, .func (.func g) #[] #[]] := by
          cases args'
          simp only at e1
          subst e1
          rfl
        subst ha
        have hcell : ∃ c es, h.get b = .cells c es := by
          unfold Heap.wr at hw
          cases hx : h.get b with
          | cells d es => exact ⟨d, es, rfl⟩
          | _ => rw [hx] at hw; cases hw
        obtain ⟨cc, es, hgb⟩ := hcell
        have key : ∀ (l : Loc) (x c' : Nat), M[b]? = some l → x = l.sh + o → CallsIn (FW none) m P f #[.slice (some ⟨l.blk, x, none⟩) xs.length c', .func (.func g) #[] #[]] w (PostV M w0 h' (.tuple ⟨[]⟩)) := fun l x c' hl' hx => by
          subst hx
          have hlt := (H.blk b l hl').lt (by rw [hgb]; intro e; cases e)
          have hH := holds_rd hk h1 (fun x v hv => by have := hfl x v hv; simp only [fl, Bool.and_eq_true] at this; exact this.1) H hl' hgb hrd
          refine CallsIn.mono (callsIn_wide.2 (hcalls xs l.blk (l.sh + o) c' w r4 r5 hH hlt)) ?_
          rintro e' w' ⟨rfl, n, os, rfl⟩
          refine ⟨[], .tuple #[], rfl, ?_, ?_⟩
          · rw [List.append_nil]
            exact sorted_HR hk h1 hfl ho H hl' hw (hsrt xs) hH P n os
          · exact VR.undef _
        cases k1 with
        | sx _ _ _ c0 x l h1 hn hx => exact key l x c0 h1 (hx (by omega))
        | sg _ _ _ c0 c1 x l h1 hc0 hn hx => exact key l x c1 h1 (hx (by omega)).1
  · cases hg
end
end Go.Proofs.Ytbbdhpjkibbnkaa.EV
