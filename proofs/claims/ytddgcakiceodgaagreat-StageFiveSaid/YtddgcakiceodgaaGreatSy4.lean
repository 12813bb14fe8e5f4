/-
  SY, part 4: a call with arguments, out of the evaluator's answer; what arguments hold, read. No condition.
-/
import Derived.Test.YtddgcakiceodgaaGreatSy3
import Derived.Deep.Slices
import Derived.Lib.SmallJoins
import Derived.ChangeOld
namespace Go.Proofs.YtddgcakiceodgaaGreat.EV
set_option linter.unusedVariables false
set_option linter.unusedSimpArgs false
open Go Go.RowKit Go.ChangeShapes Go.WideShapes Go.ChangeAt Go.Deep Go.Joins

/-- all that lies there is kept, and may be read -/
noncomputable def baseAll (w : World) : Base := ⟨w, fun k => k < w.heap.size, fun k => k < w.heap.size, fun _ h => h, fun _ h => h⟩
theorem HR.start (w : World) : HR [] (baseAll w) ⟨0, .nil⟩ w :=
  ⟨rfl, fun _ _ => rfl, (fun b l h => by simp at h), (fun b b' l l' h => by simp at h), Bel.refl _ _⟩

/-- the call answers what the evaluator does -/
theorem EF_calls {P : Program} {O : Orc} (hN : ∀ fn ∈ P.funcs.toList, fn.name ≠ "runtime.NumGoroutine") (hmix : P.follows .mixedOrders = true) (hO : SO P O) {f : FuncId} {args : List Value} {args' : Array Value} {h : Heap} {M : List Loc} {w : World}
    (H : HR M (baseAll w) h w)
    (hl : LR M args args'.toList) (he : WPo (EF P O f args h) fun q => q.1 = .bool true) : Calls P f args' w fun e w' => e = .returned (.bool true) ∧ Below w.heap.size w w' := by
  obtain ⟨⟨v, h'⟩, e1, e2⟩ := he
  subst e2
  have h1 := (EF_sound hN hmix hO e1).2 M _ w args' 0 H hl
  refine (callsIn_wide.1 h1).mono ?_
  rintro e w' ⟨N, v', rfl, h2, h3⟩
  exact ⟨by rw [bool_inv h3], h2.bel.os, h2.bel.tape, h2.bel.output, h2.bel.size, h2.bel.block⟩

/-- where a slice lies, and what it holds -/
noncomputable def Row {α : Type} (e : α → List Value) (es : Nat) (w : World) (A : Option Addr) (len cap : Nat) (xs : List α) : Prop :=
  (A = none ∧ len = 0 ∧ cap = 0 ∧ xs = []) ∨ ∃ ad, A = some ad ∧ ad.spot = none ∧ (∃ cc ty fr, w.heap[ad.block]? = some (.cells cc ty fr)) ∧ len ≤ cap ∧ xs.length = cap ∧
    ∀ i x, xs[i]? = some x → ∀ j u, (e x)[j]? = some u → w.cell? (ad.add (i * es + j)) = some u
theorem flatMap_get {α : Type} {e : α → List Value} {es : Nat} (hes : ∀ x, (e x).length = es) : ∀ (l : List α) (n : Nat) (u : Value), (l.flatMap e)[n]? = some u → ∃ i j x, l[i]? = some x ∧ (e x)[j]? = some u ∧ n = i * es + j
  | [], n, u, h => by simp at h
  | a :: l, n, u, h => by
    rw [List.flatMap_cons] at h
    by_cases q : n < es
    · rw [List.getElem?_append_left (by rw [hes]; exact q)] at h
      exact ⟨0, n, a, rfl, h, by omega⟩
    · rw [List.getElem?_append_right (by rw [hes]; omega), hes] at h
      obtain ⟨i, j, x, h1, h2, h3⟩ := flatMap_get hes l _ u h
      refine ⟨i + 1, j, x, by simpa using h1, h2, ?_⟩
      rw [Nat.add_mul]; omega
theorem flatMap_len {α : Type} {e : α → List Value} {es : Nat} (hes : ∀ x, (e x).length = es) (l : List α) : (l.flatMap e).length = l.length * es := by
  induction l with
  | nil => simp
  | cons a l ih => rw [List.flatMap_cons, List.length_append, ih, hes, List.length_cons, Nat.add_mul]; omega
theorem flatMap_at {α : Type} {e : α → List Value} {es : Nat} (hes : ∀ x, (e x).length = es) : ∀ (l : List α) (i : Nat) (x : α), l[i]? = some x → ((l.flatMap e).drop (i * es)).take es = e x
  | [], i, x, h => by simp at h
  | a :: l, 0, x, h => by
    cases h
    rw [List.flatMap_cons, Nat.zero_mul, List.drop_zero, List.take_append_of_le_length (by rw [hes]; exact Nat.le_refl _), List.take_of_length_le (by rw [hes]; exact Nat.le_refl _)]
  | a :: l, i + 1, x, h => by
    rw [List.flatMap_cons, Nat.add_mul, Nat.one_mul, List.drop_append, List.drop_of_length_le (by rw [hes]; omega), hes, List.nil_append, Nat.add_sub_cancel]
    exact flatMap_at hes l i x (by simpa using h)
theorem add_off (a : Addr) (n : Nat) (h : a.spot = none) : a.add n = ⟨a.block, a.off + n, none⟩ := by
  unfold Addr.add
  split
  · rename_i e; subst e; cases a; cases h; rfl
  · rfl

/-- a slice that came in, as the evaluator has it -/
theorem add_row {α : Type} {e : α → List Value} {es : Nat} {w : World} {h : Heap} {M : List Loc} {A : Option Addr} {len cap : Nat} {xs : List α} (H : HR M (baseAll w) h w) (hes : ∀ x, (e x).length = es) (hes1 : 1 ≤ es) (hfl : ∀ x ∈ xs, ∀ u ∈ e x, flat1 u = true) (R : Row e es w A len cap xs) :
    ∃ N h' v, HR (M ++ N) (baseAll w) h' w ∧ Ext h h' ∧ VR (M ++ N) v (.slice A len cap) ∧ SL e es h' v (xs.take len) ∧ (xs.take len).length = len := by
  rcases R with ⟨rfl, rfl, rfl, rfl⟩ | ⟨ad, rfl, hs, ⟨cc, ty, fr, hb⟩, hl, rfl, hc⟩
  · exact ⟨[], h, .slice none 0 1, by rw [List.append_nil]; exact H, Ext.refl _, .snil 0 0, .nil, rfl⟩
  · have hblt : ad.block < w.heap.size := (Array.getElem?_eq_some_iff.1 hb).1
    have hcell : ∀ n u, (xs.flatMap e)[n]? = some u → cc[ad.off + n]? = some u := fun n u hu => by
      obtain ⟨i, j, x, h1, h2, rfl⟩ := flatMap_get hes xs n u hu
      have := hc i x h1 j u h2
      rw [add_off _ _ hs] at this
      simpa [World.cell?, hb] using this
    have hfl' : ∀ (n : Nat) (u : Value), (xs.flatMap e)[n]? = some u → flat1 u = true := fun n u hu => by
      obtain ⟨i, j, x, h1, h2, _⟩ := flatMap_get hes xs n u hu
      exact hfl x (List.mem_of_getElem? h1) u (List.mem_of_getElem? h2)
    have hlen : (xs.take len).length = len := by rw [List.length_take]; omega
    obtain ⟨sh, hsh1, hsh2⟩ : ∃ sh, sh + (xs.flatMap e).length ≤ cc.size ∧ (xs.length ≠ 0 → sh = ad.off) := by
      by_cases q : xs.length = 0
      · have : xs = [] := List.length_eq_zero_iff.1 q
        subst this
        exact ⟨0, by simp, fun k => absurd rfl k⟩
      · refine ⟨ad.off, ?_, fun _ => rfl⟩
        have hpos : 0 < (xs.flatMap e).length := by rw [flatMap_len hes]; exact Nat.mul_pos (Nat.pos_of_ne_zero q) hes1
        have hu := List.getElem?_eq_getElem (l := xs.flatMap e) (i := (xs.flatMap e).length - 1) (by omega)
        have := (Array.getElem?_eq_some_iff.1 (hcell _ _ hu)).1
        omega
    have hcell' : ∀ n u, (xs.flatMap e)[n]? = some u → cc[sh + n]? = some u := fun n u hu => by
      have : xs.length ≠ 0 := fun q => by
        have : xs = [] := List.length_eq_zero_iff.1 q
        subst this; simp at hu
      rw [hsh2 this]; exact hcell n u hu
    have H' : HR (M ++ [⟨ad.block, sh, cc.size, es⟩]) (baseAll w) (h.push (.ro (xs.flatMap e))) w := by
      refine H.ext _ _ H.bel (fun _ _ _ _ => rfl) ?_ (fun q => by cases q)
      refine ⟨hblt, cc, ty, fr, hb, rfl, hsh1, fun i x hx => ⟨x, hcell' i x hx, VR.of_flat1 _ (hfl' i x hx)⟩⟩
    have hM : (M ++ [(⟨ad.block, sh, cc.size, es⟩ : Loc)])[h.next]? = some ⟨ad.block, sh, cc.size, es⟩ := get_new M _ _ H.len
    refine ⟨_, _, .slice (some ⟨h.next, 0, none⟩) len (2 * xs.length + 1), H', (Ext.refl h).push _, ?_, ?_, hlen⟩
    · have := VR.sx (M := M ++ [(⟨ad.block, sh, cc.size, es⟩ : Loc)]) h.next 0 len xs.length ad.off ⟨ad.block, sh, cc.size, es⟩ hM hl (fun q => by rw [hsh2 q]; rfl)
      have e : (some ad : Option Addr) = some ⟨ad.block, ad.off, none⟩ := by cases ad; cases hs; rfl
      rw [e]; exact this
    · have hm := SL.mk (e := e) (es := es) (h := h.push (.ro (xs.flatMap e))) h.next 0 (2 * xs.length + 1) (xs.take len) (xs.flatMap e) (by rw [next_push]; omega) (by rw [get_push_new]; rfl) (by rw [hlen, flatMap_len hes, Nat.zero_add]; exact Nat.mul_le_mul_right _ hl) (fun i x hx => by
        rw [Nat.zero_add]
        have hi := (List.getElem?_eq_some_iff.1 hx).1
        rw [hlen] at hi
        rw [List.getElem?_take_of_lt hi] at hx
        exact flatMap_at hes xs i x hx) (by rw [hlen]; omega) (.inl (by omega))
      rw [hlen] at hm
      exact hm

/-! ## arguments, read -/
theorem list_of {α : Type} (Q : Nat → α → Prop) : ∀ n : Nat, (∀ i, i < n → ∃ x, Q i x) → ∃ xs : List α, xs.length = n ∧ ∀ i x, xs[i]? = some x → Q i x
  | 0, _ => ⟨[], rfl, fun i x h => by simp at h⟩
  | n + 1, h => by
    obtain ⟨xs, hl, hq⟩ := list_of Q n (fun i hi => h i (by omega))
    obtain ⟨x, hx⟩ := h n (by omega)
    refine ⟨xs ++ [x], by rw [List.length_append, hl]; rfl, fun i y hy => ?_⟩
    by_cases c : i < n
    · exact hq i y (by rwa [List.getElem?_append_left (by omega)] at hy)
    · have : i = n := by
        have := (List.getElem?_eq_some_iff.1 hy).1
        rw [List.length_append, hl] at this
        simp at this
        omega
      subst this
      rw [List.getElem?_append_right (by omega), hl, Nat.sub_self] at hy
      simp at hy
      rw [← hy]; exact hx
/-- a slice's place, out of what the row says of the value -/
theorem cellOk_slice {P : Program} {w : World} {r : Reach} {base : Nat} {t e : TypeId} {ad : Addr} {len cap : Nat} (ht : P.underlying t = some (.slice e)) (h : Cell.okWide P w r base t (.slice (some ad) len cap)) : ad.spot = none ∧ ∃ cc ty fr, w.heap[ad.block]? = some (.cells cc ty fr) := by
  simp only [Cell.okWide, ht, Cell.ok] at h
  obtain ⟨_, _, _, h2, row, cells, h3, _⟩ := h
  refine ⟨h2, ?_⟩
  unfold World.shape? at h3
  split at h3
  · rename_i cc ty fr hw; exact ⟨cc, ty, fr, hw⟩
  · cases h3
theorem valOk_slice {P : Program} {w : World} {r : Reach} {base : Nat} {t e : TypeId} {ad : Addr} {len cap : Nat} (ht : P.underlying t = some (.slice e)) (h : Value.okWide P w r base t (.slice (some ad) len cap)) : ad.spot = none ∧ ∃ cc ty fr, w.heap[ad.block]? = some (.cells cc ty fr) := by
  simp only [Value.okWide, ht] at h
  exact cellOk_slice ht h
/-- a struct's cell -/
theorem valOk_cell {P : Program} {w : World} {r : Reach} {base : Nat} {t : TypeId} {fs : Array Field} {cs : Array Value} {ts : List TypeId} (ht : P.underlying t = some (.struct fs)) (hts : P.cellTypes P.depth t = some ts) (h : Value.okWide P w r base t (.agg cs)) {i : Nat} {v : Value} {u : TypeId} (hv : cs[i]? = some v) (hu : ts[i]? = some u) : Cell.okWide P w r base u v := by
  simp only [Value.okWide, ht] at h
  obtain ⟨cs', e, _, ts', h1, _, h2⟩ := h
  injection e with e
  subst e
  rw [hts] at h1
  cases h1
  obtain ⟨u', h3, h4⟩ := h2 i v hv
  rw [Nat.mod_eq_of_lt (List.getElem?_eq_some_iff.1 hu).1, hu] at h3
  cases h3
  exact h4

section
variable {H : Type} {enc : TypeId × Value → H} {P : Program} {w : World} {base : Nat} {held : Bool}
/-- a slice whose elements are read by some law -/
theorem open_row {α : Type} {t te : TypeId} {e : α → List Value} {es : Nat} {Wf : α → Prop} {fuel : Nat} {v : Value} {x : DataW H × List MemPlace} (ht : P.underlying t = some (.slice te)) (hc : P.cellsOf te = es) (hes : ∀ x, (e x).length = es)
    (hel : ∀ {fuel : Nat} {cs : List Value} {x : DataW H × List MemPlace}, DataW.trod enc P w base (fun _ => true) held fuel te cs = some x → ∃ z : α, cs = e z ∧ Wf z)
    (hok : ∀ ad len cap, v = .slice (some ad) len cap → ad.spot = none ∧ ∃ cc ty fr, w.heap[ad.block]? = some (.cells cc ty fr)) (h : DataW.trod enc P w base (fun _ => true) held fuel t [v] = some x) :
    ∃ (A : Option Addr) (len cap : Nat) (xs : List α), v = .slice A len cap ∧ Row e es w A len cap xs ∧ xs.length ≤ maxLen ∧ ∀ z ∈ xs, Wf z := by
  rcases open_slice ht h with ⟨h1, _⟩ | ⟨a, len, cap, m, n, D, Pl, h1, hb, hl, hm, hmm, _, hi⟩
  · injection h1 with h1
    exact ⟨none, 0, 0, [], h1, .inl ⟨rfl, rfl, rfl, rfl⟩, Nat.zero_le _, fun z hz => by cases hz⟩
  · injection h1 with h1
    simp only [if_true] at hmm
    subst hmm
    obtain ⟨hsp, hblk⟩ := hok a len m h1
    obtain ⟨xs, hxl, hx⟩ := list_of (fun i (z : α) => (∀ j u, (e z)[j]? = some u → w.cell? (a.add (i * es + j)) = some u) ∧ Wf z) m (fun i hil => by
      obtain ⟨cs', h1, h2⟩ := hi i hil
      obtain ⟨z, rfl, hz⟩ := hel h2
      rw [hc] at h1
      obtain ⟨_, _, hat⟩ := World.cells?_some h1
      refine ⟨z, fun j u hu => ?_, hz⟩
      have hj : j < es := by rw [← hes z]; exact (List.getElem?_eq_some_iff.1 hu).1
      have h3 := hat j hj
      rw [Go.Deep.add_add] at h3
      rw [h3]; exact hu)
    exact ⟨some a, len, m, xs, h1, .inr ⟨a, rfl, hsp, hblk, hl, hxl, fun i x hx' => (hx i x hx').1⟩, by omega, fun z hz => by
      obtain ⟨i, hi'⟩ := List.getElem?_of_mem hz
      exact (hx i z hi').2⟩
theorem open_int1 {t : TypeId} {k : IntKind} (ht : P.underlying t = some (.int k)) {fuel : Nat} {cs : List Value} {x : DataW H × List MemPlace} (h : DataW.trod enc P w base (fun _ => true) held fuel t cs = some x) :
    ∃ z : Int, cs = [.int k z] ∧ (Lit.int k z).wf = true := by
  obtain ⟨n, e, _, wf⟩ := DataW.trod_int ht h
  exact ⟨n, e, wf⟩
end
end Go.Proofs.YtddgcakiceodgaaGreat.EV
namespace Go.Proofs.YtddgcakiceodgaaGreat.EV
open Go Go.RowKit
noncomputable def intE (k : IntKind) (z : Int) : List Value := [.int k z]
theorem intE_flat {k : IntKind} (l : List Int) : ∀ x ∈ l, ∀ u ∈ intE k x, flat1 u = true := by
  intro x _ u hu
  rw [List.mem_singleton.1 hu]; rfl
theorem VR_agg {M : List Loc} {a b : List Value} (h : LR M a b) : VR M (.agg ⟨a⟩) (.agg ⟨b⟩) := .agg _ _ h.1 h.2
theorem VR.of_flat (M : List Loc) {l : List Value} (h : l.all flat1 = true) : VR M (.agg ⟨l⟩) (.agg ⟨l⟩) :=
  .agg _ _ rfl fun i x y hx hy => by
    rw [hx] at hy
    cases hy
    exact VR.of_flat1 M (List.all_eq_true.1 h x (List.mem_of_getElem? hx))
end Go.Proofs.YtddgcakiceodgaaGreat.EV
