/- EV, part 3: how the evaluator's values and memory stand to the model's. -/
import Derived.Test.YtddgcakiceodgaaGreatM1
import Derived.Laws.CopyRow
import Derived.Laws.Cells
namespace Go.Proofs.YtddgcakiceodgaaGreat.EV
set_option linter.unusedVariables false
set_option linter.unusedSimpArgs false
open Go Go.RowKit

inductive VR (M : List Loc) : Value → Value → Prop
 | bool (b : Bool) : VR M (.bool b) (.bool b)
 | int (k : IntKind) (n : Int) : VR M (.int k n) (.int k n)
 | str (s : ByteArray) : VR M (.string s) (.string s)
 | pnil : VR M (.pointer none) (.pointer none)
 | ptr (b o : Nat) (l : Loc) (h : M[b]? = some l) : VR M (.pointer (some ⟨b, o, none⟩)) (.pointer (some ⟨l.blk, l.sh + o, none⟩))
 | snil (n c : Nat) : VR M (.slice none n (2 * c + 1)) (.slice none n c)
 | sx (b o n c x : Nat) (l : Loc) (h : M[b]? = some l) (hn : n ≤ c) (hx : c ≠ 0 → x = l.sh + o) : VR M (.slice (some ⟨b, o, none⟩) n (2 * c + 1)) (.slice (some ⟨l.blk, x, none⟩) n c)
 | sg (b o n c c' x : Nat) (l : Loc) (h : M[b]? = some l) (hc : c ≤ c') (hn : n ≤ c) (hx : c' ≠ 0 → x = l.sh + o ∧ x + c' * l.es ≤ l.size) : VR M (.slice (some ⟨b, o, none⟩) n (2 * c)) (.slice (some ⟨l.blk, x, none⟩) n c')
 | mnil : VR M (.map none) (.map none)
 | map (r : Nat) (l : Loc) (h : M[r]? = some l) : VR M (.map (some r)) (.map (some l.blk))
 | fn (f : FuncId) (a b a' b' : Array Value) (ha : a.toList.length = a'.toList.length) (hb : b.toList.length = b'.toList.length) (h1 : ∀ (i : Nat) (x y : Value), a.toList[i]? = some x → a'.toList[i]? = some y → VR M x y) (h2 : ∀ (i : Nat) (x y : Value), b.toList[i]? = some x → b'.toList[i]? = some y → VR M x y) : VR M (.func (.func f) a b) (.func (.func f) a' b')
 | yld (y : Nat) (l : Loc) (h : M[y]? = some l) : VR M (.func (.yield y) #[] #[]) (.func (.yield l.blk) #[] #[])
 | fnil : VR M .nilFunc .nilFunc
 | inil : VR M .nilIface .nilIface
 | iface (t : TypeId) (v v' : Value) (h : VR M v v') : VR M (.iface t v) (.iface t v')
 | agg (a a' : Array Value) (ha : a.toList.length = a'.toList.length) (h1 : ∀ (i : Nat) (x y : Value), a.toList[i]? = some x → a'.toList[i]? = some y → VR M x y) : VR M (.agg a) (.agg a')
 | tuple (a a' : Array Value) (ha : a.toList.length = a'.toList.length) (h1 : ∀ (i : Nat) (x y : Value), a.toList[i]? = some x → a'.toList[i]? = some y → VR M x y) : VR M (.tuple a) (.tuple a')

noncomputable def LR (M : List Loc) (a b : List Value) : Prop := a.length = b.length ∧ ∀ (i : Nat) (x y : Value), a[i]? = some x → b[i]? = some y → VR M x y

theorem pre_get {α : Type} {M N : List α} {b : Nat} {l : α} (h : M[b]? = some l) : (M ++ N)[b]? = some l := by
 rw [List.getElem?_append_left (List.getElem?_eq_some_iff.1 h).1]; exact h

theorem VR.mono {M : List Loc} (N : List Loc) {v v' : Value} (h : VR M v v') : VR (M ++ N) v v' := by
 induction h with
 | bool b => exact .bool b
 | int k n => exact .int k n
 | str s => exact .str s
 | pnil => exact .pnil
 | ptr b o l h => exact .ptr b o l (pre_get h)
 | snil n c => exact .snil n c
 | sx b o n c x l h hn hx => exact .sx b o n c x l (pre_get h) hn hx
 | sg b o n c c' x l h hc hn hx => exact .sg b o n c c' x l (pre_get h) hc hn hx
 | mnil => exact .mnil
 | map r l h => exact .map r l (pre_get h)
 | fn f a b a' b' ha hb _ _ i1 i2 => exact .fn f a b a' b' ha hb i1 i2
 | yld y l h => exact .yld y l (pre_get h)
 | fnil => exact .fnil
 | inil => exact .inil
 | iface t v v' _ ih => exact .iface t v v' ih
 | agg a a' ha _ ih => exact .agg a a' ha ih
 | tuple a a' ha _ ih => exact .tuple a a' ha ih

theorem LR.mono {M : List Loc} (N : List Loc) {a b : List Value} (h : LR M a b) : LR (M ++ N) a b := ⟨h.1, fun i x y hx hy => (h.2 i x y hx hy).mono N⟩
theorem LR.nil (M : List Loc) : LR M [] [] := ⟨rfl, fun i x y h => by simp at h⟩
theorem LR.cons {M : List Loc} {x y : Value} {a b : List Value} (h : VR M x y) (hl : LR M a b) : LR M (x :: a) (y :: b) :=
 ⟨by simp [hl.1], fun i u v hu hv => by
  cases i with
  | zero => simp at hu hv; subst hu; subst hv; exact h
  | succ i => simp at hu hv; exact hl.2 i u v hu hv⟩
theorem LR.cons_inv {M : List Loc} {x : Value} {a b : List Value} (h : LR M (x :: a) b) : ∃ y b', b = y :: b' ∧ VR M x y ∧ LR M a b' := by
 cases b with
 | nil => have := h.1; simp at this
 | cons y b' => exact ⟨y, b', rfl, h.2 0 x y rfl rfl, by have := h.1; simpa using this, fun i u v hu hv => h.2 (i + 1) u v (by simpa using hu) (by simpa using hv)⟩
theorem LR.nil_inv {M : List Loc} {b : List Value} (h : LR M [] b) : b = [] := by
 have := h.1; cases b with
 | nil => rfl
 | cons => simp at this
theorem LR.append {M : List Loc} {a b c d : List Value} (h : LR M a b) (k : LR M c d) : LR M (a ++ c) (b ++ d) := by
 induction a generalizing b with
 | nil => rw [h.nil_inv]; exact k
 | cons x a ih => obtain ⟨y, b', rfl, h1, h2⟩ := h.cons_inv; exact LR.cons h1 (ih h2)
theorem LR.get {M : List Loc} {a b : List Value} (h : LR M a b) {i : Nat} {x : Value} (hx : a[i]? = some x) : ∃ y, b[i]? = some y ∧ VR M x y := by
 have hi := (List.getElem?_eq_some_iff.1 hx).1
 have hb : i < b.length := by rw [← h.1]; exact hi
 exact ⟨b[i], List.getElem?_eq_getElem hb, h.2 i x _ hx (List.getElem?_eq_getElem hb)⟩
theorem LR.drop {M : List Loc} {a b : List Value} (h : LR M a b) (n : Nat) : LR M (a.drop n) (b.drop n) :=
 ⟨by simp [h.1], fun i x y hx hy => by rw [List.getElem?_drop] at hx hy; exact h.2 _ x y hx hy⟩
theorem LR.take {M : List Loc} {a b : List Value} (h : LR M a b) (n : Nat) : LR M (a.take n) (b.take n) :=
 ⟨by simp [h.1], fun i x y hx hy => by
  have h1 := (List.getElem?_eq_some_iff.1 hx).1
  rw [List.length_take] at h1
  rw [List.getElem?_take_of_lt (by omega)] at hx hy; exact h.2 _ x y hx hy⟩
theorem LR.set {M : List Loc} {a b : List Value} (h : LR M a b) (i : Nat) {x y : Value} (hv : VR M x y) : LR M (a.set i x) (b.set i y) :=
 ⟨by simp [h.1], fun j u v hu hv' => by
  rw [List.getElem?_set] at hu hv'
  by_cases e : i = j
  ·subst e
   have h1 : i < a.length := by
    rcases Nat.lt_or_ge i a.length with q | q
    ·exact q
    ·rw [if_pos rfl, if_neg (by omega)] at hu; cases hu
   rw [if_pos rfl, if_pos h1] at hu
   rw [if_pos rfl, if_pos (by rw [← h.1]; exact h1)] at hv'
   cases hu; cases hv'; exact hv
  ·rw [if_neg e] at hu hv'; exact h.2 j u v hu hv'⟩
theorem LR.replicate {M : List Loc} {x y : Value} (h : VR M x y) : ∀ n, LR M (List.replicate n x) (List.replicate n y)
 | 0 => LR.nil M
 | n + 1 => LR.cons h (LR.replicate h n)
theorem LR.of_map {M : List Loc} {α : Type} (f g : α → Value) (l : List α) (h : ∀ x ∈ l, VR M (f x) (g x)) : LR M (l.map f) (l.map g) := by
 induction l with
 | nil => exact LR.nil M
 | cons x l ih => exact LR.cons (h x (List.mem_cons_self ..)) (ih fun y hy => h y (List.mem_cons_of_mem _ hy))
theorem VR.undef (M : List Loc) : VR M undef undef := .tuple _ _ rfl fun i x y h => by simp at h
theorem VR.scal {M : List Loc} {v v' : Value} (h : VR M v v') : EV.scal v = v'.oneCell' := by cases h <;> rfl
theorem VR.cellsL {M : List Loc} {v v' : Value} (h : VR M v v') : LR M (EV.cellsL v) v'.cells.toList := by
 cases h with
 | agg a a' ha h1 => exact ⟨ha, h1⟩
 | _ => exact LR.cons (by constructor <;> assumption) (LR.nil M)
theorem VR.flat1_eq {M : List Loc} {v v' : Value} (h : VR M v v') (hf : flat1 v = true) : v' = v := by
 cases h <;> first | rfl | (simp [flat1] at hf)
theorem VR.flat_eq {M : List Loc} {v v' : Value} (h : VR M v v') (hf : flat v = true) : v' = v := by
 cases h with
 | agg a a' ha h1 =>
  simp only [flat, List.all_eq_true] at hf
  have : a.toList = a'.toList := by
   apply List.ext_getElem?
   intro i
   cases hx : a.toList[i]? with
   | none => rw [List.getElem?_eq_none_iff] at hx; exact (List.getElem?_eq_none_iff.2 (by omega)).symm
   | some x =>
    have hi := (List.getElem?_eq_some_iff.1 hx).1
    have hy : a'.toList[i]? = some a'.toList[i] := List.getElem?_eq_getElem (by omega)
    rw [hy, (h1 i x _ hx hy).flat1_eq (hf x (List.mem_of_getElem? hx))]
  rw [Array.toList_inj] at this
  rw [this]
 | _ => first | rfl | (simp [flat, flat1] at hf)
theorem VR.of_flat1 (M : List Loc) {v : Value} (hf : flat1 v = true) : VR M v v := by
 cases v <;> first | (simp [flat1] at hf; done) | constructor
theorem VR.encS (M : List Loc) {v : Value} (h : okS v = true) : VR M (EV.encS v) v := by
 cases v with
 | bool b => exact .bool b
 | int k n => exact .int k n
 | string s => exact .str s
 | pointer a => cases a with
  | none => exact .pnil
  | some _ => simp [okS] at h
 | slice a n c => cases a with
  | none => exact .snil n c
  | some _ => simp [okS] at h
 | map a => cases a with
  | none => exact .mnil
  | some _ => simp [okS] at h
 | nilFunc => exact .fnil
 | nilIface => exact .inil
 | func f a b => cases f with
  | func f =>
   simp only [okS, Bool.and_eq_true, List.isEmpty_iff] at h
   exact .fn f a b a b rfl rfl (fun i x y hx => by rw [h.1] at hx; simp at hx) (fun i x y hx => by rw [h.2] at hx; simp at hx)
  | _ => simp [okS] at h
 | _ => simp [okS] at h
theorem enc_not (v : Value) (hv : ∀ cs, v ≠ .agg cs) : EV.enc v = EV.encS v ∧ okC v = okS v := by
 cases v <;> first | exact ⟨rfl, rfl⟩ | exact absurd rfl (hv _)
theorem VR.enc (M : List Loc) {v : Value} (h : okC v = true) : VR M (EV.enc v) v := by
 by_cases hv : ∀ cs, v ≠ .agg cs
 ·rw [(enc_not v hv).1]; rw [(enc_not v hv).2] at h; exact VR.encS M h
 ·obtain ⟨cs, rfl⟩ : ∃ cs, v = .agg cs := Classical.byContradiction fun hc => hv fun cs e => hc ⟨cs, e⟩
  simp only [okC, List.all_eq_true] at h
  have : LR M (cs.toList.map EV.encS) (cs.toList.map id) := LR.of_map _ _ _ fun x hx => VR.encS M (h x hx)
  rw [List.map_id] at this
  exact .agg _ _ this.1 this.2

/-! ## the memory -/
noncomputable def ER (M : List Loc) (a b : List MapEntry) : Prop := a.length = b.length ∧ ∀ (i : Nat) (x y : MapEntry), a[i]? = some x → b[i]? = some y → (∃ k n, x.key = .int k n) ∧ y.key = x.key ∧ y.born = x.born ∧ VR M x.val y.val

noncomputable def own : Blk → Bool
 | .cells .. | .map .. | .loop _ | .defd => true
 | _ => false

noncomputable def FR (M : List Loc) (n : Nat) (tm : Fr) (a : Array Value) : Prop := a.size = n ∧ ∀ i, VR M (Fr.get tm i) (a.getD i undef)
theorem FR.mono {M : List Loc} (N : List Loc) {n : Nat} {tm : Fr} {a : Array Value} (h : FR M n tm a) : FR (M ++ N) n tm a := ⟨h.1, fun i => (h.2 i).mono N⟩
theorem Fr.get_put (n : Nat) (f : Fr) (i j : Nat) (v : Value) : Fr.get (Fr.put n f i v) j = if i < n ∧ j = i then v else Fr.get f j := by
 unfold Fr.put
 cases hb : Nat.blt i n with
 | true =>
  have : i < n := Nat.le_of_ble_eq_true hb
  simp only [cnd_true, Fr.get, T.set]
  rw [T.get_setF _ _ _ _ _ _ (Nat.lt_succ_self i)]
  simp [this]
 | false =>
  have : ¬ i < n := fun h => by
   have h2 : Nat.blt i n = true := Nat.ble_eq_true_of_le h
   rw [h2] at hb; cases hb
  simp [this]
theorem FR.put {M : List Loc} {n : Nat} {tm : Fr} {a : Array Value} (h : FR M n tm a) (i : Nat) {v v' : Value} (hv : VR M v v') : FR M n (Fr.put n tm i v) (a.setIfInBounds i v') := by
 refine ⟨by simp [h.1], fun j => ?_⟩
 rw [Fr.get_put, Array.getD_eq_getD_getElem?, Array.getElem?_setIfInBounds]
 have hj := h.2 j
 rw [Array.getD_eq_getD_getElem?] at hj
 by_cases e : i = j
 ·subst e
  by_cases c : i < n
  ·simp [c, h.1, hv]
  ·have : ¬ i < a.size := by rw [h.1]; exact c
   have hn : a[i]? = none := Array.getElem?_eq_none (by omega)
   rw [hn] at hj
   simp [c, this]
   exact hj
 ·have : ¬ j = i := fun q => e q.symm
  simp only [this, and_false, if_false, e]
  exact hj
theorem Fr.get_fill : ∀ (l : List Value) (i : Nat) (f : Fr) (j : Nat), Fr.get (Fr.fill l i f) j = if i ≤ j ∧ j < i + l.length then l.getD (j - i) undef else Fr.get f j
 | [], i, f, j => by
  have : ¬ (i ≤ j ∧ j < i + ([] : List Value).length) := by simp only [List.length_nil]; omega
  rw [if_neg this]; rfl
 | v :: l, i, f, j => by
  rw [Fr.fill, Fr.get_fill l (i + 1)]
  have hs : Fr.get (T.set undef f i v) j = if j = i then v else Fr.get f j := by
   simp only [Fr.get, T.set]
   rw [T.get_setF _ _ _ _ _ _ (Nat.lt_succ_self i)]
  rw [hs]
  by_cases c : i + 1 ≤ j ∧ j < i + 1 + l.length
  ·rw [if_pos c, if_pos (by simp only [List.length_cons]; omega)]
   obtain ⟨d, hd⟩ : ∃ d, j - i = d + 1 := ⟨j - i - 1, by omega⟩
   rw [hd, show j - (i + 1) = d by omega]; rfl
  ·rw [if_neg c]
   by_cases e : j = i
   ·subst e
    rw [if_pos rfl, if_pos (by simp only [List.length_cons]; omega), Nat.sub_self]; rfl
   ·rw [if_neg e, if_neg (by simp only [List.length_cons]; omega)]
theorem FR.enter {M : List Loc} {args : List Value} {a : Array Value} (h : LR M args a.toList) (k : Nat) : FR M (args.length + (k - args.length)) (Fr.fill args 0 .nil) (a ++ Array.replicate (k - a.size) undef) := by
 have hs : a.size = args.length := by rw [← Array.length_toList, ← h.1]
 refine ⟨by simp [hs], fun i => ?_⟩
 rw [Fr.get_fill, Array.getD_eq_getD_getElem?]
 by_cases c : i < args.length
 ·rw [if_pos (by omega), Array.getElem?_append_left (by omega), Nat.sub_zero, List.getD_eq_getElem?_getD]
  obtain ⟨y, h1, h2⟩ := h.get (List.getElem?_eq_getElem c)
  rw [List.getElem?_eq_getElem c, ← Array.getElem?_toList, h1]
  exact h2
 ·rw [if_neg (by omega)]
  have : ((a ++ Array.replicate (k - a.size) undef)[i]?).getD undef = undef := by
   rw [Array.getElem?_append_right (by omega), Array.getElem?_replicate]
   split <;> rfl
  rw [this]
  exact VR.undef M

structure LoopR (M : List Loc) (L : LoopA) (L' : Loop) : Prop where
 state : L'.state = L.state
 pending : L'.pending = L.pending
 tmps : FR M L.n L.tm L'.tmps
 params : L'.params.toList = L.params
 assign : L'.assign = L.assign
 body : L'.body = L.body
 defers : ∃ l, M[L.defers]? = some l ∧ L'.defers = l.blk

noncomputable def frz (fr : Nat × Nat) (n : Nat) : Prop := fr.1 = fr.2 ∨ n ≤ fr.1

structure Base where
 w : World
 kept : Nat → Prop
 ro : Nat → Prop
 lt : ∀ k, kept k → k < w.heap.size
 sub : ∀ k, ro k → kept k
structure Bel (B : Base) (w w' : World) : Prop where
 os : w'.os = w.os
 tape : w'.tape = w.tape
 output : w'.output = w.output
 size : w.heap.size ≤ w'.heap.size
 block : ∀ k, B.kept k → w'.heap[k]? = w.heap[k]?
theorem Bel.refl (B : Base) (w : World) : Bel B w w := ⟨rfl, rfl, rfl, Nat.le_refl _, fun _ _ => rfl⟩
theorem Bel.trans {B : Base} {a b c : World} (h : Bel B a b) (k : Bel B b c) : Bel B a c :=
 ⟨k.os.trans h.os, k.tape.trans h.tape, k.output.trans h.output, Nat.le_trans h.size k.size, fun i hi => (k.block i hi).trans (h.block i hi)⟩
theorem Bel.fresh {B : Base} {w : World} (h : Bel B B.w w) {k : Nat} (hk : w.heap.size ≤ k) : ¬ B.kept k := fun q => by
 have := B.lt k q
 have := h.size
 omega
theorem Bel.alloc {B : Base} {w : World} (h : Bel B B.w w) (o : Obj) : Bel B B.w (w.alloc o) :=
 h.trans ⟨rfl, rfl, rfl, by show w.heap.size ≤ (w.heap.push o).size; simp, fun k hk => Below.heap_alloc w o k (by have := B.lt k hk; have := h.size; omega)⟩
theorem Bel.setCell {B : Base} {a w : World} (h : Bel B a w) {p : Addr} (hp : ¬ B.kept p.block) (u : Value) : Bel B a (w.setCell p u) :=
 h.trans ⟨rfl, rfl, rfl, by simp [World.setCell], fun k hk => Below.heap_setCell w p u k (fun e => hp (e ▸ hk))⟩
theorem Base.ro_ne {B : Base} {i j : Nat} (h : B.ro i) (k : ¬ B.kept j) : i ≠ j := fun e => k (e ▸ B.sub i h)

noncomputable def BR (M : List Loc) (B : Base) (w : World) (l : Loc) : Blk → Prop
 | .dead => True
 | .cells c es => l.es = es ∧ ¬ B.kept l.blk ∧ ∃ cc e fr, w.heap[l.blk]? = some (.cells cc e fr) ∧ cc.size = l.size ∧ frz fr l.size ∧ l.sh + c.length ≤ l.size ∧ ∀ (i : Nat) (x : Value), c[i]? = some x → ∃ y, cc[l.sh + i]? = some y ∧ VR M x y
 | .ro c => B.ro l.blk ∧ ∃ cc e fr, w.heap[l.blk]? = some (.cells cc e fr) ∧ cc.size = l.size ∧ l.sh + c.length ≤ l.size ∧ ∀ (i : Nat) (x : Value), c[i]? = some x → ∃ y, cc[l.sh + i]? = some y ∧ VR M x y
 | .map es clock => ¬ B.kept l.blk ∧ ∃ ce, w.heap[l.blk]? = some (.map ce clock) ∧ ER M es ce.toList
 | .loop L => ¬ B.kept l.blk ∧ ∃ L', w.heap[l.blk]? = some (.loop L') ∧ LoopR M L L'
 | .defd => ¬ B.kept l.blk ∧ w.heap[l.blk]? = some (.deferred (some []))

structure HR (M : List Loc) (w0 : Base) (h : Heap) (w : World) : Prop where
 len : M.length = h.next
 live : ∀ b, h.next ≤ b → h.get b = .dead
 blk : ∀ b l, M[b]? = some l → BR M w0 w l (h.get b)
 inj : ∀ b b' l l', M[b]? = some l → M[b']? = some l' → own (h.get b) = true → own (h.get b') = true → b ≠ b' → l.blk ≠ l'.blk
 bel : Bel w0 w0.w w

theorem ER.mono {M : List Loc} (N : List Loc) {a b : List MapEntry} (h : ER M a b) : ER (M ++ N) a b :=
 ⟨h.1, fun i x y hx hy => let ⟨h1, h2, h3, h4⟩ := h.2 i x y hx hy; ⟨h1, h2, h3, h4.mono N⟩⟩
theorem LoopR.mono {M : List Loc} (N : List Loc) {L : LoopA} {L' : Loop} (h : LoopR M L L') : LoopR (M ++ N) L L' :=
 ⟨h.state, h.pending, h.tmps.mono N, h.params, h.assign, h.body, let ⟨l, h1, h2⟩ := h.defers; ⟨l, pre_get h1, h2⟩⟩
theorem BR.mono {M : List Loc} (N : List Loc) {B : Base} {w : World} {l : Loc} {x : Blk} (h : BR M B w l x) : BR (M ++ N) B w l x := by
 cases x with
 | dead => trivial
 | cells c es => obtain ⟨h1, h2, cc, e, fr, h3, h4, h5, h6, h7⟩ := h; exact ⟨h1, h2, cc, e, fr, h3, h4, h5, h6, fun i x hx => let ⟨y, a, b⟩ := h7 i x hx; ⟨y, a, b.mono N⟩⟩
 | ro c => obtain ⟨h2, cc, e, fr, h3, h4, h6, h7⟩ := h; exact ⟨h2, cc, e, fr, h3, h4, h6, fun i x hx => let ⟨y, a, b⟩ := h7 i x hx; ⟨y, a, b.mono N⟩⟩
 | map es k => obtain ⟨h2, ce, h3, h4⟩ := h; exact ⟨h2, ce, h3, h4.mono N⟩
 | loop L => obtain ⟨h2, L', h3, h4⟩ := h; exact ⟨h2, L', h3, h4.mono N⟩
 | defd => exact h
theorem BR.heap {M : List Loc} {B : Base} {w w' : World} {l : Loc} {x : Blk} (h : BR M B w l x) (hw : w'.heap[l.blk]? = w.heap[l.blk]?) : BR M B w' l x := by
 cases x with
 | dead => trivial
 | cells c es => obtain ⟨h1, h2, cc, e, fr, h3, h4⟩ := h; exact ⟨h1, h2, cc, e, fr, hw.trans h3, h4⟩
 | ro c => obtain ⟨h2, cc, e, fr, h3, h4⟩ := h; exact ⟨h2, cc, e, fr, hw.trans h3, h4⟩
 | map es k => obtain ⟨h2, ce, h3, h4⟩ := h; exact ⟨h2, ce, hw.trans h3, h4⟩
 | loop L => obtain ⟨h2, L', h3, h4⟩ := h; exact ⟨h2, L', hw.trans h3, h4⟩
 | defd => exact ⟨h.1, hw.trans h.2⟩
theorem BR.lt {M : List Loc} {B : Base} {w : World} {l : Loc} {x : Blk} (h : BR M B w l x) (hx : x ≠ .dead) : l.blk < w.heap.size := by
 have key : ∀ o, w.heap[l.blk]? = some o → l.blk < w.heap.size := fun o ho => (Array.getElem?_eq_some_iff.1 ho).1
 cases x with
 | dead => exact absurd rfl hx
 | cells c es => obtain ⟨h1, h2, cc, e, fr, h3, h4⟩ := h; exact key _ h3
 | ro c => obtain ⟨h2, cc, e, fr, h3, h4⟩ := h; exact key _ h3
 | map es k => obtain ⟨h2, ce, h3, h4⟩ := h; exact key _ h3
 | loop L => obtain ⟨h2, L', h3, h4⟩ := h; exact key _ h3
 | defd => exact key _ h.2
theorem own_dead {x : Blk} (h : own x = true) : x ≠ .dead := by intro e; subst e; cases h
theorem BR.ge {M : List Loc} {B : Base} {w : World} {l : Loc} {x : Blk} (h : BR M B w l x) (hx : own x = true) : ¬ B.kept l.blk := by
 cases x with
 | cells c es => exact h.2.1
 | map es k => exact h.1
 | loop L => exact h.1
 | defd => exact h.1
 | _ => cases hx

section
variable {M : List Loc} {w0 : Base} {w w' : World} {h : Heap}

theorem HR.ext (H : HR M w0 h w) (l : Loc) (x : Blk) (hb : Bel w0 w0.w w') (hk : ∀ b l', M[b]? = some l' → h.get b ≠ .dead → w'.heap[l'.blk]? = w.heap[l'.blk]?)
  (hx : BR (M ++ [l]) w0 w' l x) (hi : own x = true → ∀ b l', M[b]? = some l' → own (h.get b) = true → l'.blk ≠ l.blk) : HR (M ++ [l]) w0 (h.push x) w' := by
 have hg : ∀ b, b < h.next → (h.push x).get b = h.get b := fun b hb => by rw [Heap.get_push, if_neg (by omega)]
 have hlt : ∀ b l', (M ++ [l])[b]? = some l' → b ≠ h.next → M[b]? = some l' ∧ b < h.next := fun b l' he hn => by
  have h1 := (List.getElem?_eq_some_iff.1 he).1
  simp [H.len] at h1
  have : b < M.length := by rw [H.len]; omega
  rw [List.getElem?_append_left this] at he
  exact ⟨he, by omega⟩
 have hnew : ∀ l', (M ++ [l])[h.next]? = some l' → l' = l := fun l' he => by
  rw [← H.len, List.getElem?_append_right (Nat.le_refl _)] at he
  simpa using he.symm
 refine ⟨by simp [H.len], fun b hb => ?_, fun b l' hl => ?_, fun b b' l1 l2 h1 h2 o1 o2 hne => ?_, hb⟩
 ·rw [Heap.next_push] at hb
  rw [Heap.get_push, if_neg (by omega)]; exact H.live b (by omega)
 ·by_cases e : b = h.next
  ·subst e
   rw [hnew l' hl, Heap.get_push, if_pos rfl]; exact hx
  ·obtain ⟨h1, h2⟩ := hlt b l' hl e
   rw [hg b h2]
   by_cases d : h.get b = .dead
   ·rw [d]; trivial
   ·exact ((H.blk b l' h1).heap (hk b l' h1 d)).mono [l]
 ·by_cases e : b = h.next
  ·subst e
   obtain ⟨h3, h4⟩ := hlt b' l2 h2 (fun e => hne e.symm)
   rw [hg b' h4] at o2
   rw [Heap.get_push, if_pos rfl] at o1
   rw [hnew l1 h1]
   exact fun q => hi o1 b' l2 h3 o2 q.symm
  ·obtain ⟨h3, h4⟩ := hlt b l1 h1 e
   rw [hg b h4] at o1
   by_cases e' : b' = h.next
   ·subst e'
    rw [Heap.get_push, if_pos rfl] at o2
    rw [hnew l2 h2]
    exact hi o2 b l1 h3 o1
   ·obtain ⟨h5, h6⟩ := hlt b' l2 h2 e'
    rw [hg b' h6] at o2
    exact H.inj b b' l1 l2 h3 h5 o1 o2 hne

theorem HR.turn (H : HR M w0 h w) (b0 : Nat) (x : Blk) (hb : Bel w0 w0.w w') (hk : ∀ b l', b ≠ b0 → M[b]? = some l' → h.get b ≠ .dead → w'.heap[l'.blk]? = w.heap[l'.blk]?)
  (hn : b0 < h.next) (hx : ∀ l, M[b0]? = some l → BR M w0 w' l x) (hi : own x = true → own (h.get b0) = true) : HR M w0 (h.set b0 x) w' := by
 refine ⟨by simp [H.len], fun b hb => ?_, fun b l' hl => ?_, fun b b' l1 l2 h1 h2 o1 o2 hne => ?_, hb⟩
 ·rw [Heap.next_set] at hb
  rw [Heap.get_set, if_neg (by omega)]; exact H.live b hb
 ·rw [Heap.get_set]
  by_cases e : b = b0
  ·subst e; rw [if_pos rfl]; exact hx l' hl
  ·rw [if_neg e]
   by_cases d : h.get b = .dead
   ·rw [d]; trivial
   ·exact (H.blk b l' hl).heap (hk b l' e hl d)
 ·rw [Heap.get_set] at o1 o2
  refine H.inj b b' l1 l2 h1 h2 ?_ ?_ hne
  ·by_cases e : b = b0
   ·subst e; rw [if_pos rfl] at o1; exact hi o1
   ·rw [if_neg e] at o1; exact o1
  ·by_cases e : b' = b0
   ·subst e; rw [if_pos rfl] at o2; exact hi o2
   ·rw [if_neg e] at o2; exact o2

theorem HR.drawn (H : HR M w0 h w) (n : Nat) : HR M w0 h { w with drawn := n } :=
 ⟨H.len, H.live, fun b l hl => (H.blk b l hl).heap rfl, H.inj, ⟨H.bel.os, H.bel.tape, H.bel.output, H.bel.size, H.bel.block⟩⟩
theorem HR.drew (H : HR M w0 h w) : HR M w0 h w.drew := H.drawn _

theorem HR.alloc (H : HR M w0 h w) (o : Obj) (l : Loc) (x : Blk) (hl : l.blk = w.heap.size) (hx : BR (M ++ [l]) w0 (w.alloc o) l x) : HR (M ++ [l]) w0 (h.push x) (w.alloc o) :=
 H.ext l x (H.bel.alloc o) (fun b l' h1 h2 => Below.heap_alloc w o l'.blk ((H.blk b l' h1).lt h2)) hx
  (fun _ b l' h1 h2 => by have := (H.blk b l' h1).lt (own_dead h2); omega)

theorem heap_new (w : World) (o : Obj) : (w.alloc o).heap[w.heap.size]? = some o := by
 show (w.heap.push o)[w.heap.size]? = _
 simp

theorem HR.alloc_cells (H : HR M w0 h w) (c : List Value) (es : Nat) (cc : Array Value) (e : TypeId) (fr : Nat × Nat) (hf : frz fr cc.size) (hl : c.length ≤ cc.size)
  (hc : ∀ (i : Nat) (x : Value), c[i]? = some x → ∃ y, cc[i]? = some y ∧ VR M x y) : HR (M ++ [⟨w.heap.size, 0, cc.size, es⟩]) w0 (h.push (.cells c es)) (w.alloc (.cells cc e fr)) := by
 refine H.alloc _ _ _ rfl ⟨rfl, H.bel.fresh (Nat.le_refl _), cc, e, fr, heap_new _ _, rfl, hf, by simpa using hl, fun i x hx => ?_⟩
 obtain ⟨y, h1, h2⟩ := hc i x hx
 exact ⟨y, by simpa using h1, h2.mono _⟩
theorem frz_zero (n : Nat) : frz (0, 0) n := .inl rfl
theorem HR.alloc_row (H : HR M w0 h w) (c : List Value) (es : Nat) (cc : Array Value) (e : TypeId) (hc : LR M c cc.toList) :
  HR (M ++ [⟨w.heap.size, 0, cc.size, es⟩]) w0 (h.push (.cells c es)) (w.alloc (.cells cc e (0, 0))) :=
 H.alloc_cells c es cc e (0, 0) (frz_zero _) (by rw [hc.1]; simp) fun i x hx => by obtain ⟨y, h1, h2⟩ := hc.get hx; exact ⟨y, by simpa using h1, h2⟩
theorem get_new (M : List Loc) (l : Loc) (n : Nat) (hn : M.length = n) : (M ++ [l])[n]? = some l := by
 subst hn; rw [List.getElem?_append_right (Nat.le_refl _)]; simp
theorem HR.kill (H : HR M w0 h w) (b : Nat) (hb : b < h.next) : HR M w0 (h.set b .dead) w :=
 H.turn b .dead H.bel (fun _ _ _ _ _ => rfl) hb (fun _ _ => trivial) (fun e => by cases e)
theorem HR.lt_next (H : HR M w0 h w) {b : Nat} (hb : h.get b ≠ .dead) : b < h.next := by
 rcases Nat.lt_or_ge b h.next with q | q
 ·exact q
 ·exact absurd (H.live b q) hb
theorem HR.loc (H : HR M w0 h w) {b : Nat} (hb : h.get b ≠ .dead) : ∃ l, M[b]? = some l := by
 have := H.lt_next hb
 rw [← H.len] at this
 exact ⟨M[b], List.getElem?_eq_getElem this⟩

/-! ### what is read -/
theorem HR.rd1 (H : HR M w0 h w) {b o : Nat} {l : Loc} {v : Value} (hl : M[b]? = some l) (hv : h.rd1 b o = some v) : ∃ v', w.cell? ⟨l.blk, l.sh + o, none⟩ = some v' ∧ VR M v v' := by
 have hb := H.blk b l hl
 unfold Heap.rd1 at hv
 cases hx : h.get b with
 | cells c es =>
  rw [hx] at hv hb
  obtain ⟨_, _, cc, e, fr, h3, _, _, _, h7⟩ := hb
  obtain ⟨y, h8, h9⟩ := h7 o v hv
  exact ⟨y, by simp [World.cell?, h3, h8], h9⟩
 | ro c =>
  rw [hx] at hv hb
  obtain ⟨_, cc, e, fr, h3, _, _, h7⟩ := hb
  obtain ⟨y, h8, h9⟩ := h7 o v hv
  exact ⟨y, by simp [World.cell?, h3, h8], h9⟩
 | _ => rw [hx] at hv; cases hv
theorem HR.rd (H : HR M w0 h w) {b o n : Nat} {l : Loc} {c : List Value} (hl : M[b]? = some l) (hv : h.rd b o n = some c) :
  c.length = n ∧ ∃ c', LR M c c' ∧ ∀ i y, c'[i]? = some y → w.cell? ⟨l.blk, l.sh + o + i, none⟩ = some y := by
 have hrd : ∀ d : List Value, (cnd (Nat.ble (o + n) d.length) (some ((d.drop o).take n)) none) = some c → (∀ i v, d[i]? = some v → ∃ y, w.cell? ⟨l.blk, l.sh + i, none⟩ = some y ∧ VR M v y) →
   c.length = n ∧ ∃ c', LR M c c' ∧ ∀ i y, c'[i]? = some y → w.cell? ⟨l.blk, l.sh + o + i, none⟩ = some y := by
  intro d hd hcell
  cases hle : Nat.ble (o + n) d.length with
  | false => rw [hle] at hd; cases hd
  | true =>
   rw [hle] at hd
   have hle' := Nat.le_of_ble_eq_true hle
   simp only [cnd_true, Option.some.injEq] at hd
   subst hd
   refine ⟨by simp; omega, (List.range n).map (fun i => (w.cell? ⟨l.blk, l.sh + o + i, none⟩).getD undef), ⟨by simp; omega, fun i x y hx hy => ?_⟩, fun i y hy => ?_⟩
   ·have hi : i < n := by have := (List.getElem?_eq_some_iff.1 hy).1; simpa using this
    rw [List.getElem?_take_of_lt hi, List.getElem?_drop] at hx
    obtain ⟨z, hz, hvr⟩ := hcell _ x hx
    have hz' : w.cell? ⟨l.blk, l.sh + o + i, none⟩ = some z := by rw [Nat.add_assoc]; exact hz
    rw [List.getElem?_map, List.getElem?_range hi] at hy
    simp only [Option.map_some, hz', Option.getD_some, Option.some.injEq] at hy
    rw [← hy]; exact hvr
   ·have hi : i < n := by have := (List.getElem?_eq_some_iff.1 hy).1; simpa using this
    obtain ⟨z, hz, _⟩ := hcell (o + i) _ (List.getElem?_eq_getElem (by omega))
    have hz' : w.cell? ⟨l.blk, l.sh + o + i, none⟩ = some z := by rw [Nat.add_assoc]; exact hz
    rw [List.getElem?_map, List.getElem?_range hi] at hy
    simp only [Option.map_some, hz', Option.getD_some, Option.some.injEq] at hy
    rw [hz', hy]
 have h1 : ∀ i v, h.rd1 b i = some v → ∃ y, w.cell? ⟨l.blk, l.sh + i, none⟩ = some y ∧ VR M v y := fun i v hv => H.rd1 hl hv
 unfold Heap.rd at hv
 unfold Heap.rd1 at h1
 cases hx : h.get b with
 | cells d es => rw [hx] at hv h1; exact hrd d hv h1
 | ro d => rw [hx] at hv h1; exact hrd d hv h1
 | _ => rw [hx] at hv; cases hv
/-! ### what is written -/
theorem HR.congr {h' : Heap} (H : HR M w0 h w) (hn : h'.next = h.next) (hg : ∀ b, h'.get b = h.get b) : HR M w0 h' w :=
 ⟨by rw [hn]; exact H.len, fun b hb => by rw [hg]; exact H.live b (by omega), fun b l hl => by rw [hg]; exact H.blk b l hl, fun b b' l l' h1 h2 o1 o2 hne => by rw [hg] at o1 o2; exact H.inj b b' l l' h1 h2 o1 o2 hne, H.bel⟩

theorem HR.st1 (P : Program) (H : HR M w0 h w) {b o es : Nat} {l : Loc} {c : List Value} {x y : Value} (hl : M[b]? = some l) (hg : h.get b = .cells c es) (ho : o < c.length) (hv : VR M x y) (hs : scal x = true) :
  (store ⟨l.blk, l.sh + o, none⟩ y).run P w = .ok () (w.setCell ⟨l.blk, l.sh + o, none⟩ y) ∧ HR M w0 (h.set b (.cells (c.set o x) es)) (w.setCell ⟨l.blk, l.sh + o, none⟩ y) := by
 have hb := H.blk b l hl
 rw [hg] at hb
 obtain ⟨h1, h2, cc, e, fr, h3, h4, h5, h6, h7⟩ := hb
 have hlt : l.sh + o < cc.size := by omega
 have hcell : w.cell? ⟨l.blk, l.sh + o, none⟩ = some cc[l.sh + o] := by simp [World.cell?, h3, hlt]
 have hfz : w.frozen? ⟨l.blk, l.sh + o, none⟩ = false := by
  have : ¬ (fr.1 ≤ l.sh + o ∧ l.sh + o < fr.2) := by rcases h5 with h5 | h5 <;> omega
  simp only [World.frozen?, h3]
  cases hd : (decide (fr.1 ≤ l.sh + o) && decide (l.sh + o < fr.2)) with
  | false => rfl
  | true => simp at hd; exact absurd hd this
 have hnew : (w.setCell ⟨l.blk, l.sh + o, none⟩ y).heap[l.blk]? = some (.cells (cc.setIfInBounds (l.sh + o) y) e fr) := by
  simp only [World.setCell, Array.getElem?_modify, if_true, h3, Option.map_some]
  simp
 refine ⟨?_, ?_⟩
 ·rw [run_store P w _ y _ (by rw [← hv.scal]; exact hs), hcell]
  simp [hfz]
 ·refine H.turn b _ (H.bel.setCell h2 _) (fun b' l' hne h1' hd => Below.heap_setCell w _ y l'.blk ?_) (H.lt_next (by rw [hg]; simp)) (fun l' hl' => ?_) (fun _ => by rw [hg]; rfl)
  ·intro e
   cases ho' : own (h.get b') with
   | true => exact H.inj b' b l' l h1' hl ho' (by rw [hg]; rfl) hne e
   | false =>
    have hb' := H.blk b' l' h1'
    cases hx : h.get b' with
    | dead => exact hd hx
    | ro c' => rw [hx] at hb'; exact Base.ro_ne hb'.1 h2 e
    | _ => rw [hx] at ho'; cases ho'
  ·rw [hl] at hl'
   cases hl'
   refine ⟨h1, h2, _, e, fr, hnew, by simpa using h4, h5, by simpa using h6, fun i v hv' => ?_⟩
   rw [List.getElem?_set] at hv'
   by_cases ei : o = i
   ·subst ei
    rw [if_pos rfl, if_pos ho] at hv'
    cases hv'
    exact ⟨y, by simp [hlt], hv⟩
   ·rw [if_neg ei] at hv'
    obtain ⟨z, hz, hvr⟩ := h7 i v hv'
    refine ⟨z, ?_, hvr⟩
    rw [Array.getElem?_setIfInBounds_ne (by omega)]; exact hz
theorem splice_length : ∀ (xs : List Value) (c : List Value) (o : Nat), (splice c o xs).length = c.length
 | [], c, o => rfl
 | x :: xs, c, o => by rw [splice, splice_length xs]; simp
theorem addr_add (b o i : Nat) : (⟨b, o, none⟩ : Addr).add i = ⟨b, o + i, none⟩ := by unfold Addr.add; split <;> simp_all
theorem HR.sts (P : Program) {b es : Nat} {l : Loc} : ∀ (xs ys : List Value) (h : Heap) (w : World) (c : List Value) (o i : Nat), HR M w0 h w → M[b]? = some l → h.get b = .cells c es → o + i + xs.length ≤ c.length → LR M xs ys → (xs.all scal) = true →
  ∃ w', (storeCells ⟨l.blk, l.sh + o, none⟩ ys i).run P w = .ok () w' ∧ HR M w0 (h.set b (.cells (splice c (o + i) xs) es)) w'
 | [], ys, h, w, c, o, i, H, hl, hg, ho, hr, hs => by
  rw [hr.nil_inv]
  refine ⟨w, rfl, H.congr rfl fun b' => ?_⟩
  rw [Heap.get_set]
  by_cases e : b' = b
  ·subst e; rw [if_pos rfl, hg]; rfl
  ·rw [if_neg e]
 | x :: xs, ys, h, w, c, o, i, H, hl, hg, ho, hr, hs => by
  obtain ⟨y, ys', rfl, hv, hr'⟩ := hr.cons_inv
  simp only [List.all_cons, Bool.and_eq_true] at hs
  simp only [List.length_cons] at ho
  obtain ⟨h1, H1⟩ := H.st1 P (o := o + i) hl hg (by omega) hv hs.1
  obtain ⟨w', h2, H2⟩ := HR.sts P xs ys' _ _ (c.set (o + i) x) o (i + 1) H1 hl (by rw [Heap.get_set, if_pos rfl]) (by simp; omega) hr' hs.2
  refine ⟨w', ?_, H2.congr rfl fun b' => ?_⟩
  ·simp only [storeCells, addr_add, Sem.run_bind]
   rw [show l.sh + o + i = l.sh + (o + i) by omega, h1]
   simp only [Result.andThen_ok]
   exact h2
  ·simp only [Heap.get_set]
   by_cases e : b' = b
   ·simp only [e, if_true]; rfl
   ·simp only [e, if_false]
theorem HR.wr (P : Program) (H : HR M w0 h w) {b o : Nat} {l : Loc} {xs ys : List Value} {h' : Heap} (hl : M[b]? = some l) (hw : h.wr b o xs = some h') (hr : LR M xs ys) :
  ∃ w', (storeCells ⟨l.blk, l.sh + o, none⟩ ys).run P w = .ok () w' ∧ HR M w0 h' w' := by
 unfold Heap.wr at hw
 cases hg : h.get b with
 | cells c es =>
  rw [hg] at hw
  simp only at hw
  cases hc : (Nat.ble (o + xs.length) c.length && xs.all scal) with
  | false => rw [hc] at hw; cases hw
  | true =>
   rw [hc] at hw
   simp only [cnd_true, Option.some.injEq] at hw
   simp only [Bool.and_eq_true] at hc
   have := Nat.le_of_ble_eq_true hc.1
   obtain ⟨w', h1, h2⟩ := HR.sts P xs ys h w c o 0 H hl hg (by omega) hr hc.2
   subst hw
   exact ⟨w', h1, h2⟩
 | _ => rw [hg] at hw; cases hw
end
end Go.Proofs.YtddgcakiceodgaaGreat.EV
