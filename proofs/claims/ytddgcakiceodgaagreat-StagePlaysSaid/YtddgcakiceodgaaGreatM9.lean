/- SY, part 3: what stays, what a slice holds, rounds of a loop. No condition. SY, part 4: a call with arguments, out of the evaluator's answer; what arguments hold, read. No condition. SY, part 5: closed functions, told beside: what the evaluator answers out of nothing, they answer anywhere, and leave the memory as it is. No condition. SY, part 6: slices of one's own (they may grow), slices cut, bytes, texts, bits. No condition. -/
import Derived.Test.YtddgcakiceodgaaGreatM8
import Derived.Deep.Slices
import Derived.Lib.SmallJoins
import Derived.ChangeOld
namespace Go.Proofs.YtddgcakiceodgaaGreat.EV
set_option linter.unusedVariables false
set_option linter.unusedSimpArgs false
open Go Go.RowKit

structure Ext (h h' : Heap) : Prop where
 le : h.next ≤ h'.next
 old : ∀ b, b < h.next → h'.get b = h.get b
theorem Ext.refl (h : Heap) : Ext h h := ⟨Nat.le_refl _, fun _ _ => rfl⟩
theorem Ext.trans {a b c : Heap} (h : Ext a b) (k : Ext b c) : Ext a c := ⟨Nat.le_trans h.le k.le, fun i hi => (k.old i (Nat.lt_of_lt_of_le hi h.le)).trans (h.old i hi)⟩
theorem Ext.push {a b : Heap} (h : Ext a b) (x : Blk) : Ext a (b.push x) := ⟨Nat.le_succ_of_le h.le, fun i hi => by rw [get_push_old x (Nat.lt_of_lt_of_le hi h.le)]; exact h.old i hi⟩
theorem Ext.set {a b : Heap} (h : Ext a b) (i : Nat) (x : Blk) (hi : a.next ≤ i) : Ext a (b.set i x) := ⟨h.le, fun j hj => by rw [get_set_ne x (by omega)]; exact h.old j hj⟩
theorem Ext.get {h h' : Heap} (e : Ext h h') {b : Nat} {x : Blk} (hb : b < h.next) (hx : h.get b = x) : h'.get b = x := (e.old b hb).trans hx
structure Mod (S : Nat → Prop) (h h' : Heap) : Prop where
 le : h.next ≤ h'.next
 old : ∀ b, b < h.next → ¬ S b → h'.get b = h.get b
theorem Ext.mod {h h' : Heap} (e : Ext h h') (S : Nat → Prop) : Mod S h h' := ⟨e.le, fun b hb _ => e.old b hb⟩
theorem Mod.refl (S : Nat → Prop) (h : Heap) : Mod S h h := ⟨Nat.le_refl _, fun _ _ _ => rfl⟩
theorem Mod.trans {S : Nat → Prop} {a b c : Heap} (h : Mod S a b) (k : Mod S b c) : Mod S a c := ⟨Nat.le_trans h.le k.le, fun i hi hs => (k.old i (Nat.lt_of_lt_of_le hi h.le) hs).trans (h.old i hi hs)⟩
theorem Mod.mono {S T : Nat → Prop} {a b : Heap} (h : Mod S a b) (k : ∀ i, i < a.next → S i → T i) : Mod T a b := ⟨h.le, fun i hi ht => h.old i hi fun hs => ht (k i hi hs)⟩
theorem Mod.push {S : Nat → Prop} {a b : Heap} (h : Mod S a b) (x : Blk) : Mod S a (b.push x) := h.trans ((Ext.refl b).push x |>.mod S)
theorem Mod.set {S : Nat → Prop} {a b : Heap} (h : Mod S a b) (i : Nat) (x : Blk) (hi : i < a.next → S i) : Mod S a (b.set i x) := ⟨h.le, fun j hj hs => by
 rw [get_set_ne x (fun e => hs (by subst e; exact hi hj))]; exact h.old j hj hs⟩
theorem Mod.ext {h h' : Heap} (e : Mod (fun _ => False) h h') : Ext h h' := ⟨e.le, fun b hb => e.old b hb fun q => q⟩
theorem Mod.drop {S : Nat → Prop} {a b c : Heap} (h : Mod S a b) (k : Mod (fun i => S i ∨ a.next ≤ i) b c) : Mod S a c := ⟨Nat.le_trans h.le k.le, fun i hi hs => (k.old i (Nat.lt_of_lt_of_le hi h.le) (fun q => q.elim hs (fun q => by omega))).trans (h.old i hi hs)⟩

noncomputable def Pu (x : VH) (h : Heap) (v : Value) : Prop := WPo x fun q => q.1 = v ∧ Ext h q.2
theorem Pu.mk {h h' : Heap} {v u : Value} (hv : u = v) (e : Ext h h') : Pu (some (u, h')) h v := ⟨_, rfl, hv, e⟩

theorem Pu.bind {x : VH} {h : Heap} {v : Value} {Q : Value × Heap → Prop} (p : Pu x h v) (k : ∀ h', Ext h h' → Q (v, h')) : WPo x Q := by
 obtain ⟨⟨u, h'⟩, e, e1, e2⟩ := p
 subst e1
 exact ⟨_, e, k h' e2⟩
noncomputable def cellsOf : Blk → Option (List Value)
 | .cells c _ => some c
 | .ro c => some c
 | _ => none
theorem rdc_of {x : Blk} {c : List Value} (h : cellsOf x = some c) (o n : Nat) (hl : o + n ≤ c.length) : rdc x o n = some ((c.drop o).take n) := by
 cases x <;> first | (cases h; done) | (cases h; first | exact rdc_c _ _ _ _ hl | exact rdc_r _ _ _ hl)
theorem rdc1_of {x : Blk} {c : List Value} (h : cellsOf x = some c) (o : Nat) : rdc1 x o = c[o]? := by
 cases x <;> first | (cases h; done) | (cases h; first | exact rdc1_c _ _ _ | exact rdc1_r _ _)

inductive SL {α : Type} (e : α → List Value) (es : Nat) (h : Heap) : Value → List α → Prop
 | nil : SL e es h (.slice none 0 1) []
 | mk (b o c : Nat) (l : List α) (cs : List Value) (hb : b < h.next) (hc : cellsOf (h.get b) = some cs) (hl : o + l.length * es ≤ cs.length)
   (hx : ∀ i x, l[i]? = some x → (cs.drop (o + i * es)).take es = e x) (hcap : l.length ≤ c / 2) (hq : c % 2 = 1 ∨ ∃ cs, h.get b = .cells cs es) : SL e es h (.slice (some ⟨b, o, none⟩) l.length c) l
section
variable {α : Type} {e : α → List Value} {es : Nat} {h h' : Heap} {v : Value} {l : List α}
theorem SL.ext (s : SL e es h v l) (x : Ext h h') : SL e es h' v l := by
 cases s with
 | nil => exact .nil
 | mk b o c l cs hb hc hl hx hcap hq => exact .mk b o c l cs (Nat.lt_of_lt_of_le hb x.le) (by rw [x.old b hb]; exact hc) hl hx hcap (by rw [x.old b hb]; exact hq)
noncomputable def SLo (S : Nat → Prop) (v : Value) : Prop := match v with
 | .slice (some ⟨b, _, none⟩) _ _ => ¬ S b
 | _ => True
theorem SL.mod {S : Nat → Prop} (s : SL e es h v l) (x : Mod S h h') (ho : SLo S v) : SL e es h' v l := by
 cases s with
 | nil => exact .nil
 | mk b o c l cs hb hc hl hx hcap hq => exact .mk b o c l cs (Nat.lt_of_lt_of_le hb x.le) (by rw [x.old b hb ho]; exact hc) hl hx hcap (by rw [x.old b hb ho]; exact hq)
theorem SL.val (s : SL e es h v l) : ∃ a c, v = .slice a l.length c := by
 cases s with
 | nil => exact ⟨_, _, rfl⟩
 | mk b o c l cs hb hc hl hx hcap hq => exact ⟨_, _, rfl⟩
theorem SL.at (s : SL e es h v l) {i : Nat} {x : α} (hx : l[i]? = some x) (hlen : (e x).length = es) : ∃ b o c, v = .slice (some ⟨b, o, none⟩) l.length c ∧ b < h.next ∧ rdc (h.get b) (o + i * es) es = some (e x) ∧ ∀ j y, (e x)[j]? = some y → rdc1 (h.get b) (o + i * es + j) = some y := by
 cases s with
 | nil => simp at hx
 | mk b o c l cs hb hc hl hx' hcap hq =>
  have hi := (List.getElem?_eq_some_iff.1 hx).1
  have h1 := hx' i x hx
  have hle : (i + 1) * es ≤ l.length * es := Nat.mul_le_mul_right _ hi
  rw [Nat.add_mul, Nat.one_mul] at hle
  refine ⟨b, o, c, rfl, hb, ?_, fun j y hy => ?_⟩
  ·rw [rdc_of hc _ _ (by omega), h1]
  ·rw [rdc1_of hc]
   have hj := (List.getElem?_eq_some_iff.1 hy).1
   rw [← h1, List.getElem?_take_of_lt (by omega), List.getElem?_drop] at hy
   exact hy
end

theorem LP_rule {P : Program} {O : Orc} {bad : List Nat} {ro : Option Nat} {n : Nat} {b : Code} (I : Nat → St → Prop) (Q : Exit × St → Prop)
  (step : ∀ m st, I m st → WPo (EU P O bad ro n b st) fun q => match q.1 with | .normal => ∃ k, k < m ∧ I k q.2 | _ => Q q) :
  ∀ (m : Nat) (st : St) (j : Nat), I m st → m < j → WPo (LP P O bad ro n b j st) Q := by
 intro m
 induction m using Nat.strongRecOn with
 | ind m ih =>
  intro st j hI hj
  obtain ⟨j, rfl⟩ : ∃ k, j = k + 1 := ⟨j - 1, by omega⟩
  rw [LP_succ]
  obtain ⟨q, e1, hq⟩ := step m st hI
  rw [e1, ob_s]
  obtain ⟨x, s⟩ := q
  cases x with
  | normal =>
   obtain ⟨k, hk, hI'⟩ := hq
   rw [loopK_n]
   exact ih k hk s j hI' (by omega)
  | _ => rw [loopK_o _ _ _ _ (by simp), WPo_some]; exact hq

theorem inB_nat {i n : Nat} (h : i < n) : inB (i : Int) n = true := by
 unfold inB
 simp [h]
theorem inB_int {i : Int} {n : Nat} (h : 0 ≤ i ∧ i < n) : inB i n = true := by
 unfold inB
 simp [h]
theorem toNat_nat (n : Nat) : ((n : Nat) : Int).toNat = n := Int.toNat_natCast n
theorem wrap64 {n : Int} (h : -9223372036854775808 ≤ n ∧ n < 9223372036854775808) : wrapF .i64 n = n := by
 have hm : Int.emod n 18446744073709551616 = n % 18446744073709551616 := rfl
 show cnd (true && decide ((9223372036854775808 : Int) ≤ Int.emod n 18446744073709551616)) (Int.emod n 18446744073709551616 - 18446744073709551616) (Int.emod n 18446744073709551616) = n
 rw [hm]
 by_cases q : (9223372036854775808 : Int) ≤ n % 18446744073709551616
 ·rw [decide_eq_true q, Bool.true_and, cnd_true]; omega
 ·rw [decide_eq_false q, Bool.true_and, cnd_false]; omega
theorem wrapU {k : IntKind} {n : Int} (hk : sgnK k = false) (h : 0 ≤ n ∧ n < fullK k) : wrapF k n = n := by
 unfold wrapF
 simp only [hk, Bool.false_and, cnd_false]
 exact Int.emod_eq_of_lt h.1 h.2
theorem wrap_succ {i : Nat} (h : i < 4611686018427387904) : wrapF .i64 ((i : Int) + 1) = ((i + 1 : Nat) : Int) := by
 rw [wrap64 (by omega)]; rfl
theorem wrap_pred {i : Nat} (h : 1 ≤ i ∧ i < 4611686018427387904) : wrapF .i64 ((i : Int) - 1) = ((i - 1 : Nat) : Int) := by
 rw [wrap64 (by omega)]; omega
attribute [go_sem] inB_nat toNat_nat wrap_succ wrap_pred

/-! ## two structs of plain numbers, alike -/
theorem absPure_bind {P : Program} {α β : Type} (s : Sem α) (f : α → Sem β) : absPure P (s >>= f) = ob (absPure P s) fun a => absPure P (f a) := by
 show absPure P (s.bind f) = _
 induction s with
 | pure a => rfl
 | program k ih => exact ih P
 | mark m k ih => exact ih
 | _ => rfl
theorem eq_struct {P : Program} {t : TypeId} {fs : Array Field} {xs ys : Array Value} (hu : P.underlying t = some (.struct fs)) (hs : P.stoodInHeld t = false) (c : Field → Bool)
  (hc : ∀ f ∈ fs.toList, f.name ≠ "_" ∧ absPure P (part f.type xs f.offset >>= fun u => part f.type ys f.offset >>= fun v => Op.equalIn 9999 f.type u v) = some (c f)) : absPure P (Op.equal t (.agg xs) (.agg ys)) = some (fs.toList.all c) := by
 have h1 : absPure P (underlying t) = P.underlying t := by
  unfold underlying
  show absPure P (match P.underlying t with | some d => _ | none => _) = _
  rw [hu]
  rfl
 unfold Op.equal
 rw [show Op.maxDepth = 9999 + 1 from rfl]
 unfold Op.equalIn
 rw [absPure_bind, h1, hu, ob_some]
 simp only []
 rw [absPure_bind]
 show absPure P (if P.stoodInHeld t = true then _ else _) = _
 rw [if_neg (by rw [hs]; simp), absPure_bind, ← Array.forIn_toList]
 have key : ∀ (l : List Field) (b : MProd (Option Bool) Unit ⊕ Unit), True := fun _ _ => trivial
 clear key
 generalize fs.toList = l at hc ⊢
 induction l with
 | nil => rfl
 | cons f l ih =>
  obtain ⟨h2, h3⟩ := hc f (List.mem_cons_self ..)
  rw [List.forIn_cons, absPure_bind, if_pos h2]
  rw [absPure_bind] at h3
  obtain ⟨u, h4, h3⟩ := ob_inv h3
  rw [absPure_bind] at h3
  obtain ⟨v, h5, h3⟩ := ob_inv h3
  rw [absPure_bind, h4, ob_some, absPure_bind, h5, ob_some, absPure_bind, h3, ob_some]
  cases hq : c f with
  | true =>
   rw [if_neg (by simp), List.all_cons, hq, Bool.true_and]
   exact ih fun g hg => hc g (List.mem_cons_of_mem _ hg)
  | false =>
   rw [if_pos (by simp), List.all_cons, hq, Bool.false_and]
   rfl
theorem bin_eqlS {P : Program} {t : TypeId} {x y : Operand} {xs ys : Array Value} {r : Bool} (h : absPure P (Op.equal t (.agg xs) (.agg ys)) = some r) (hg : absPure P (eqGuard .eql t x y (.agg xs) (.agg ys)) = some ()) (h1 : flat (.agg xs) = true) (h2 : flat (.agg ys) = true) : evBin P .eql t x y (.agg xs) (.agg ys) = some (.bool r) := by
 unfold evBin
 rw [h1, h2]
 have : absPure P (eqGuard .eql t x y (.agg xs) (.agg ys) >>= fun _ => binOp .eql t (.agg xs) (.agg ys)) = some (.bool r) := by
  rw [absPure_bind, hg, ob_some]
  show absPure P (Op.equal t (.agg xs) (.agg ys) >>= fun b => pure (Value.bool b)) = _
  rw [absPure_bind, h]
  rfl
 show orE none (cnd true (match absPure P (eqGuard .eql t x y (.agg xs) (.agg ys) >>= fun _ => binOp .eql t (.agg xs) (.agg ys)) with | some v => cnd (flat1 v) (some v) none | none => none) _) = _
 rw [this]
 rfl
theorem bin_neqS {P : Program} {t : TypeId} {x y : Operand} {xs ys : Array Value} {r : Bool} (h : absPure P (Op.equal t (.agg xs) (.agg ys)) = some r) (hg : absPure P (eqGuard .neq t x y (.agg xs) (.agg ys)) = some ()) (h1 : flat (.agg xs) = true) (h2 : flat (.agg ys) = true) : evBin P .neq t x y (.agg xs) (.agg ys) = some (.bool (!r)) := by
 unfold evBin
 rw [h1, h2]
 have : absPure P (eqGuard .neq t x y (.agg xs) (.agg ys) >>= fun _ => binOp .neq t (.agg xs) (.agg ys)) = some (.bool (!r)) := by
  rw [absPure_bind, hg, ob_some]
  show absPure P (Op.equal t (.agg xs) (.agg ys) >>= fun b => pure (Value.bool (!b))) = _
  rw [absPure_bind, h]
  rfl
 show orE none (cnd true (match absPure P (eqGuard .neq t x y (.agg xs) (.agg ys) >>= fun _ => binOp .neq t (.agg xs) (.agg ys)) with | some v => cnd (flat1 v) (some v) none | none => none) _) = _
 rw [this]
 rfl
end Go.Proofs.YtddgcakiceodgaaGreat.EV
namespace Go.Proofs.YtddgcakiceodgaaGreat.EV
set_option linter.unusedVariables false
set_option linter.unusedSimpArgs false
open Go Go.RowKit Go.ChangeShapes Go.WideShapes Go.ChangeAt Go.Deep Go.Joins

noncomputable def baseAll (w : World) : Base := ⟨w, fun k => k < w.heap.size, fun k => k < w.heap.size, fun _ h => h, fun _ h => h⟩
theorem HR.start (w : World) : HR [] (baseAll w) ⟨0, .nil⟩ w :=
 ⟨rfl, fun _ _ => rfl, (fun b l h => by simp at h), (fun b b' l l' h => by simp at h), Bel.refl _ _⟩

theorem EF_calls {P : Program} {O : Orc} (hN : ∀ fn ∈ P.funcs.toList, fn.name ≠ "runtime.NumGoroutine") (hmix : P.follows .mixedOrders = true) (hO : SO P O) {f : FuncId} {args : List Value} {args' : Array Value} {h : Heap} {M : List Loc} {w : World}
  (H : HR M (baseAll w) h w)
  (hl : LR M args args'.toList) (he : WPo (EF P O f args h) fun q => q.1 = .bool true) : Calls P f args' w fun e w' => e = .returned (.bool true) ∧ Below w.heap.size w w' := by
 obtain ⟨⟨v, h'⟩, e1, e2⟩ := he
 subst e2
 rcases EF_sound hN hmix hO e1 with hb | ⟨_, hx, _⟩
 rotate_left
 ·exact absurd rfl (hx true)
 have h1 := hb.2 M _ w args' 0 H hl
 refine (callsIn_wide.1 h1).mono ?_
 rintro e w' ⟨N, v', rfl, h2, h3⟩
 exact ⟨by rw [bool_inv h3], h2.bel.os, h2.bel.tape, h2.bel.output, h2.bel.size, h2.bel.block⟩

noncomputable def Row {α : Type} (e : α → List Value) (es : Nat) (w : World) (A : Option Addr) (len cap : Nat) (xs : List α) : Prop :=
 (A = none ∧ len = 0 ∧ cap = 0 ∧ xs = []) ∨ ∃ ad, A = some ad ∧ ad.spot = none ∧ (∃ cc ty fr, w.heap[ad.block]? = some (.cells cc ty fr)) ∧ len ≤ cap ∧ xs.length = cap ∧
  ∀ i x, xs[i]? = some x → ∀ j u, (e x)[j]? = some u → w.cell? (ad.add (i * es + j)) = some u
theorem flatMap_get {α : Type} {e : α → List Value} {es : Nat} (hes : ∀ x, (e x).length = es) : ∀ (l : List α) (n : Nat) (u : Value), (l.flatMap e)[n]? = some u → ∃ i j x, l[i]? = some x ∧ (e x)[j]? = some u ∧ n = i * es + j
 | [], n, u, h => by simp at h
 | a :: l, n, u, h => by
  rw [List.flatMap_cons] at h
  by_cases q : n < es
  ·rw [List.getElem?_append_left (by rw [hes]; exact q)] at h
   exact ⟨0, n, a, rfl, h, by omega⟩
  ·rw [List.getElem?_append_right (by rw [hes]; omega), hes] at h
   obtain ⟨i, j, x, h1, h2, h3⟩ := flatMap_get hes l _ u h
   refine ⟨i + 1, j, x, by simpa using h1, h2, ?_⟩
   rw [Nat.add_mul]; omega
theorem flatMap_len {α : Type} {e : α → List Value} {es : Nat} (hes : ∀ x, (e x).length = es) (l : List α) : (l.flatMap e).length = l.length * es := by
 induction l with
 | nil => simp
 | cons a l ih => rw [List.flatMap_cons, List.length_append, ih, hes, List.length_cons, Nat.add_mul]; omega
theorem flatMap_at {α : Type} {e : α → List Value} {es : Nat} (hes : ∀ x, (e x).length = es) : ∀ (l : List α) (i : Nat) (x : α), l[i]? = some x → ((l.flatMap e).drop (i * es)).take es = e x
 | [], i, x, h => by simp at h
 | a :: l, 0, x, h => by
  cases h
  rw [List.flatMap_cons, Nat.zero_mul, List.drop_zero, List.take_append_of_le_length (by rw [hes]; exact Nat.le_refl _), List.take_of_length_le (by rw [hes]; exact Nat.le_refl _)]
 | a :: l, i + 1, x, h => by
  rw [List.flatMap_cons, Nat.add_mul, Nat.one_mul, List.drop_append, List.drop_of_length_le (by rw [hes]; omega), hes, List.nil_append, Nat.add_sub_cancel]
  exact flatMap_at hes l i x (by simpa using h)
theorem add_off (a : Addr) (n : Nat) (h : a.spot = none) : a.add n = ⟨a.block, a.off + n, none⟩ := by
 unfold Addr.add
 split
 ·rename_i e; subst e; cases a; cases h; rfl
 ·rfl

theorem add_row {α : Type} {e : α → List Value} {es : Nat} {w : World} {h : Heap} {M : List Loc} {A : Option Addr} {len cap : Nat} {xs : List α} (H : HR M (baseAll w) h w) (hes : ∀ x, (e x).length = es) (hes1 : 1 ≤ es) (hfl : ∀ x ∈ xs, ∀ u ∈ e x, flat1 u = true) (R : Row e es w A len cap xs) :
  ∃ N h' v, HR (M ++ N) (baseAll w) h' w ∧ Ext h h' ∧ VR (M ++ N) v (.slice A len cap) ∧ SL e es h' v (xs.take len) ∧ (xs.take len).length = len := by
 rcases R with ⟨rfl, rfl, rfl, rfl⟩ | ⟨ad, rfl, hs, ⟨cc, ty, fr, hb⟩, hl, rfl, hc⟩
 ·exact ⟨[], h, .slice none 0 1, by rw [List.append_nil]; exact H, Ext.refl _, .snil 0 0, .nil, rfl⟩
 ·have hblt : ad.block < w.heap.size := (Array.getElem?_eq_some_iff.1 hb).1
  have hcell : ∀ n u, (xs.flatMap e)[n]? = some u → cc[ad.off + n]? = some u := fun n u hu => by
   obtain ⟨i, j, x, h1, h2, rfl⟩ := flatMap_get hes xs n u hu
   have := hc i x h1 j u h2
   rw [add_off _ _ hs] at this
   simpa [World.cell?, hb] using this
  have hfl' : ∀ (n : Nat) (u : Value), (xs.flatMap e)[n]? = some u → flat1 u = true := fun n u hu => by
   obtain ⟨i, j, x, h1, h2, _⟩ := flatMap_get hes xs n u hu
   exact hfl x (List.mem_of_getElem? h1) u (List.mem_of_getElem? h2)
  have hlen : (xs.take len).length = len := by rw [List.length_take]; omega
  obtain ⟨sh, hsh1, hsh2⟩ : ∃ sh, sh + (xs.flatMap e).length ≤ cc.size ∧ (xs.length ≠ 0 → sh = ad.off) := by
   by_cases q : xs.length = 0
   ·have : xs = [] := List.length_eq_zero_iff.1 q
    subst this
    exact ⟨0, by simp, fun k => absurd rfl k⟩
   ·refine ⟨ad.off, ?_, fun _ => rfl⟩
    have hpos : 0 < (xs.flatMap e).length := by rw [flatMap_len hes]; exact Nat.mul_pos (Nat.pos_of_ne_zero q) hes1
    have hu := List.getElem?_eq_getElem (l := xs.flatMap e) (i := (xs.flatMap e).length - 1) (by omega)
    have := (Array.getElem?_eq_some_iff.1 (hcell _ _ hu)).1
    omega
  have hcell' : ∀ n u, (xs.flatMap e)[n]? = some u → cc[sh + n]? = some u := fun n u hu => by
   have : xs.length ≠ 0 := fun q => by
    have : xs = [] := List.length_eq_zero_iff.1 q
    subst this; simp at hu
   rw [hsh2 this]; exact hcell n u hu
  have H' : HR (M ++ [⟨ad.block, sh, cc.size, es⟩]) (baseAll w) (h.push (.ro (xs.flatMap e))) w := by
   refine H.ext _ _ H.bel (fun _ _ _ _ => rfl) ?_ (fun q => by cases q)
   refine ⟨hblt, cc, ty, fr, hb, rfl, hsh1, fun i x hx => ⟨x, hcell' i x hx, VR.of_flat1 _ (hfl' i x hx)⟩⟩
  have hM : (M ++ [(⟨ad.block, sh, cc.size, es⟩ : Loc)])[h.next]? = some ⟨ad.block, sh, cc.size, es⟩ := get_new M _ _ H.len
  refine ⟨_, _, .slice (some ⟨h.next, 0, none⟩) len (2 * xs.length + 1), H', (Ext.refl h).push _, ?_, ?_, hlen⟩
  ·have := VR.sx (M := M ++ [(⟨ad.block, sh, cc.size, es⟩ : Loc)]) h.next 0 len xs.length ad.off ⟨ad.block, sh, cc.size, es⟩ hM hl (fun q => by rw [hsh2 q]; rfl)
   have e : (some ad : Option Addr) = some ⟨ad.block, ad.off, none⟩ := by cases ad; cases hs; rfl
   rw [e]; exact this
  ·have hm := SL.mk (e := e) (es := es) (h := h.push (.ro (xs.flatMap e))) h.next 0 (2 * xs.length + 1) (xs.take len) (xs.flatMap e) (by rw [next_push]; omega) (by rw [get_push_new]; rfl) (by rw [hlen, flatMap_len hes, Nat.zero_add]; exact Nat.mul_le_mul_right _ hl) (fun i x hx => by
    rw [Nat.zero_add]
    have hi := (List.getElem?_eq_some_iff.1 hx).1
    rw [hlen] at hi
    rw [List.getElem?_take_of_lt hi] at hx
    exact flatMap_at hes xs i x hx) (by rw [hlen]; omega) (.inl (by omega))
   rw [hlen] at hm
   exact hm

/-! ## arguments, read -/
theorem list_of {α : Type} (Q : Nat → α → Prop) : ∀ n : Nat, (∀ i, i < n → ∃ x, Q i x) → ∃ xs : List α, xs.length = n ∧ ∀ i x, xs[i]? = some x → Q i x
 | 0, _ => ⟨[], rfl, fun i x h => by simp at h⟩
 | n + 1, h => by
  obtain ⟨xs, hl, hq⟩ := list_of Q n (fun i hi => h i (by omega))
  obtain ⟨x, hx⟩ := h n (by omega)
  refine ⟨xs ++ [x], by rw [List.length_append, hl]; rfl, fun i y hy => ?_⟩
  by_cases c : i < n
  ·exact hq i y (by rwa [List.getElem?_append_left (by omega)] at hy)
  ·have : i = n := by
    have := (List.getElem?_eq_some_iff.1 hy).1
    rw [List.length_append, hl] at this
    simp at this
    omega
   subst this
   rw [List.getElem?_append_right (by omega), hl, Nat.sub_self] at hy
   simp at hy
   rw [← hy]; exact hx
theorem cellOk_slice {P : Program} {w : World} {r : Reach} {base : Nat} {t e : TypeId} {ad : Addr} {len cap : Nat} (ht : P.underlying t = some (.slice e)) (h : Cell.okWide P w r base t (.slice (some ad) len cap)) : ad.spot = none ∧ ∃ cc ty fr, w.heap[ad.block]? = some (.cells cc ty fr) := by
 simp only [Cell.okWide, ht, Cell.ok] at h
 obtain ⟨_, _, _, h2, row, cells, h3, _⟩ := h
 refine ⟨h2, ?_⟩
 unfold World.shape? at h3
 split at h3
 ·rename_i cc ty fr hw; exact ⟨cc, ty, fr, hw⟩
 ·cases h3
theorem valOk_slice {P : Program} {w : World} {r : Reach} {base : Nat} {t e : TypeId} {ad : Addr} {len cap : Nat} (ht : P.underlying t = some (.slice e)) (h : Value.okWide P w r base t (.slice (some ad) len cap)) : ad.spot = none ∧ ∃ cc ty fr, w.heap[ad.block]? = some (.cells cc ty fr) := by
 simp only [Value.okWide, ht] at h
 exact cellOk_slice ht h
theorem valOk_cell {P : Program} {w : World} {r : Reach} {base : Nat} {t : TypeId} {fs : Array Field} {cs : Array Value} {ts : List TypeId} (ht : P.underlying t = some (.struct fs)) (hts : P.cellTypes P.depth t = some ts) (h : Value.okWide P w r base t (.agg cs)) {i : Nat} {v : Value} {u : TypeId} (hv : cs[i]? = some v) (hu : ts[i]? = some u) : Cell.okWide P w r base u v := by
 simp only [Value.okWide, ht] at h
 obtain ⟨cs', e, _, ts', h1, _, h2⟩ := h
 injection e with e
 subst e
 rw [hts] at h1
 cases h1
 obtain ⟨u', h3, h4⟩ := h2 i v hv
 rw [Nat.mod_eq_of_lt (List.getElem?_eq_some_iff.1 hu).1, hu] at h3
 cases h3
 exact h4

section
variable {H : Type} {enc : TypeId × Value → H} {P : Program} {w : World} {base : Nat} {held : Bool}
theorem open_row {α : Type} {t te : TypeId} {e : α → List Value} {es : Nat} {Wf : α → Prop} {fuel : Nat} {v : Value} {x : DataW H × List MemPlace} (ht : P.underlying t = some (.slice te)) (hc : P.cellsOf te = es) (hes : ∀ x, (e x).length = es)
  (hel : ∀ {fuel : Nat} {cs : List Value} {x : DataW H × List MemPlace}, DataW.trod enc P w base (fun _ => true) held fuel te cs = some x → ∃ z : α, cs = e z ∧ Wf z)
  (hok : ∀ ad len cap, v = .slice (some ad) len cap → ad.spot = none ∧ ∃ cc ty fr, w.heap[ad.block]? = some (.cells cc ty fr)) (h : DataW.trod enc P w base (fun _ => true) held fuel t [v] = some x) :
  ∃ (A : Option Addr) (len cap : Nat) (xs : List α), v = .slice A len cap ∧ Row e es w A len cap xs ∧ xs.length ≤ maxLen ∧ ∀ z ∈ xs, Wf z := by
 rcases open_slice ht h with ⟨h1, _⟩ | ⟨a, len, cap, m, n, D, Pl, h1, hb, hl, hm, hmm, _, hi⟩
 ·injection h1 with h1
  exact ⟨none, 0, 0, [], h1, .inl ⟨rfl, rfl, rfl, rfl⟩, Nat.zero_le _, fun z hz => by cases hz⟩
 ·injection h1 with h1
  simp only [if_true] at hmm
  subst hmm
  obtain ⟨hsp, hblk⟩ := hok a len m h1
  obtain ⟨xs, hxl, hx⟩ := list_of (fun i (z : α) => (∀ j u, (e z)[j]? = some u → w.cell? (a.add (i * es + j)) = some u) ∧ Wf z) m (fun i hil => by
   obtain ⟨cs', h1, h2⟩ := hi i hil
   obtain ⟨z, rfl, hz⟩ := hel h2
   rw [hc] at h1
   obtain ⟨_, _, hat⟩ := World.cells?_some h1
   refine ⟨z, fun j u hu => ?_, hz⟩
   have hj : j < es := by rw [← hes z]; exact (List.getElem?_eq_some_iff.1 hu).1
   have h3 := hat j hj
   rw [Go.Deep.add_add] at h3
   rw [h3]; exact hu)
  exact ⟨some a, len, m, xs, h1, .inr ⟨a, rfl, hsp, hblk, hl, hxl, fun i x hx' => (hx i x hx').1⟩, by omega, fun z hz => by
   obtain ⟨i, hi'⟩ := List.getElem?_of_mem hz
   exact (hx i z hi').2⟩
end
end Go.Proofs.YtddgcakiceodgaaGreat.EV
namespace Go.Proofs.YtddgcakiceodgaaGreat.EV
open Go Go.RowKit
theorem VR_agg {M : List Loc} {a b : List Value} (h : LR M a b) : VR M (.agg ⟨a⟩) (.agg ⟨b⟩) := .agg _ _ h.1 h.2
end Go.Proofs.YtddgcakiceodgaaGreat.EV
namespace Go.Proofs.YtddgcakiceodgaaGreat.EV
set_option linter.unusedVariables false
set_option linter.unusedSimpArgs false
open Go Go.RowKit

theorem HR.quiet {M : List Loc} {w0 : Base} {h : Heap} {w w' : World} (H : HR M w0 h w) (k : Bel (baseAll w) w w') : HR M w0 h w' :=
  ⟨H.len, H.live, fun b l hl => by
    by_cases d : h.get b = .dead
    · rw [d]; trivial
    · exact (H.blk b l hl).heap (k.block l.blk ((H.blk b l hl).lt d)), H.inj,
   H.bel.trans ⟨k.os, k.tape, k.output, k.size, fun i hi => k.block i (Nat.lt_of_lt_of_le (w0.lt i hi) H.bel.size)⟩⟩

noncomputable def okT : Option (Value × Heap) → Bool
  | some (.bool true, _) => true
  | _ => false
theorem okT_inv {x : Option (Value × Heap)} (h : okT x = true) : ∃ h', x = some (.bool true, h') := by
  unfold okT at h
  split at h
  · exact ⟨_, rfl⟩
  · cases h
noncomputable def closedT (args : List Value) (h : Heap) : VH := match args with
  | [] => some (.bool true, h)
  | _ => none
theorem closed_sound {P : Program} (hN : ∀ fn ∈ P.funcs.toList, fn.name ≠ "runtime.NumGoroutine") (hmix : P.follows .mixedOrders = true) {k : Nat} {f : FuncId} (he : okT ((ev P k).F f [] ⟨0, .nil⟩) = true) {args : List Value} {h : Heap} {v : Value} {h' : Heap} (hg : closedT args h = some (v, h')) : SF1 P f args h v h' := by
  obtain ⟨h2, e⟩ := okT_inv he
  cases args with
  | cons _ _ => cases hg
  | nil =>
    cases hg
    rcases (ev_sound hN hmix k).1 _ _ _ _ _ e with hs | ⟨_, hx, _⟩
    rotate_left
    · exact absurd rfl (hx true)
    refine ⟨hs.1, fun M w0 w args' n H hl => ?_⟩
    have ha : args' = #[] := by
      have := hl.nil_inv
      cases args'
      simp_all
    subst ha
    refine CallsIn.mono (hs.2 [] (baseAll w) w #[] n (HR.start w) (LR.nil _)) ?_
    rintro e' w' ⟨N, v', rfl, H2, hv⟩
    rw [bool_inv hv]
    exact ⟨[], _, rfl, by rw [List.append_nil]; exact H.quiet H2.bel, .bool _⟩
noncomputable def fl (x : Value) : Bool := flat x && flat1 x

inductive OW {α : Type} (e : α → List Value) (es : Nat) (h : Heap) : Value → List α → Prop
 | nil : OW e es h (.slice none 0 1) []
 | mk (b o c : Nat) (l : List α) (cs : List Value) (hb : b < h.next) (hc : h.get b = .cells cs es) (hcap : l.length ≤ c / 2) (hl : o + (c / 2) * es ≤ cs.length)
   (hx : ∀ i x, l[i]? = some x → (cs.drop (o + i * es)).take es = e x) : OW e es h (.slice (some ⟨b, o, none⟩) l.length c) l
noncomputable def blkOf (v : Value) (i : Nat) : Prop := match v with
 | .slice (some ⟨b, _, _⟩) _ _ => b = i
 | _ => False
noncomputable def Fresh (n : Nat) (v : Value) : Prop := ∀ i, blkOf v i → n ≤ i
theorem Fresh.nil (n m c : Nat) : Fresh n (.slice none m c) := fun i h => h.elim
theorem Fresh.mk {n b : Nat} (o m c : Nat) (h : n ≤ b) : Fresh n (.slice (some ⟨b, o, none⟩) m c) := fun i e => by cases e; exact h
theorem Fresh.mono {n m : Nat} {v : Value} (h : Fresh n v) (k : m ≤ n) : Fresh m v := fun i e => Nat.le_trans k (h i e)

section
variable {α : Type} {e : α → List Value} {es : Nat} {h h' : Heap} {v : Value} {l : List α}
theorem OW.sl (s : OW e es h v l) : SL e es h v l := by
 cases s with
 | nil => exact .nil
 | mk b o c l cs hb hc hcap hl hx =>
  have := Nat.mul_le_mul_right es hcap
  exact .mk b o c l cs hb (by rw [hc]; rfl) (by omega) hx hcap (.inr ⟨cs, hc⟩)
theorem OW.mod {S : Nat → Prop} (s : OW e es h v l) (x : Mod S h h') (ho : ∀ i, blkOf v i → ¬ S i) : OW e es h' v l := by
 cases s with
 | nil => exact .nil
 | mk b o c l cs hb hc hcap hl hx => exact .mk b o c l cs (Nat.lt_of_lt_of_le hb x.le) (by rw [x.old b hb (ho b rfl)]; exact hc) hcap hl hx
theorem OW.ext (s : OW e es h v l) (x : Ext h h') : OW e es h' v l := s.mod (x.mod fun _ => False) fun _ _ q => q
theorem SL.modB {S : Nat → Prop} (s : SL e es h v l) (x : Mod S h h') (ho : ∀ i, blkOf v i → ¬ S i) : SL e es h' v l := by
 refine s.mod x ?_
 cases s with
 | nil => trivial
 | mk b o c l cs hb hc hl hx hcap hq => exact ho b rfl
theorem SL.lt (s : SL e es h v l) {i : Nat} (hi : blkOf v i) : i < h.next := by
 cases s with
 | nil => exact hi.elim
 | mk b o c l cs hb hc hl hx hcap hq => cases hi; exact hb
theorem OW.lt (s : OW e es h v l) {i : Nat} (hi : blkOf v i) : i < h.next := s.sl.lt hi
theorem OW.val (s : OW e es h v l) : ∃ a c, v = .slice a l.length c := s.sl.val
theorem OW.new {b : Nat} (hes : ∀ x, (e x).length = es) (hb : b < h.next) (hc : h.get b = .cells (l.flatMap e) es) {m c : Nat} (hm : m = l.length) (hcc : c / 2 = l.length) : OW e es h (.slice (some ⟨b, 0, none⟩) m c) l := by
 subst hm
 refine .mk b 0 c l _ hb hc (by omega) (by rw [flatMap_len hes, hcc]; omega) fun i x hx => ?_
 rw [Nat.zero_add]; exact flatMap_at hes l i x hx

theorem OW.lit (hes : ∀ x, (e x).length = es) (h : Heap) (l : List α) : OW e es (h.push (.cells (l.flatMap e) es)) (.slice (some ⟨h.next, 0, none⟩) l.length (2 * l.length + 1)) l :=
 OW.new hes (by rw [next_push]; omega) (get_push_new _ _) rfl (by omega)
theorem splice_eq : ∀ (xs c : List Value) (o : Nat), o + xs.length ≤ c.length → splice c o xs = c.take o ++ (xs ++ c.drop (o + xs.length))
 | [], c, o, _ => by simp [splice]
 | x :: xs, c, o, h => by
  simp only [List.length_cons] at h
  rw [splice, splice_eq xs _ (o + 1) (by simp; omega), List.take_add_one, List.getElem?_set_self (by omega)]
  rw [List.take_set_of_le (Nat.le_refl _), List.drop_set_of_lt (by omega)]
  simp only [Option.toList_some, List.append_assoc, List.singleton_append, List.length_cons, List.cons_append, List.nil_append]
  rw [show o + 1 + xs.length = o + (xs.length + 1) by omega]
theorem drop_take_ext {a b : List Value} {o n : Nat} (h : ∀ i, i < n → a[o + i]? = b[o + i]?) : (a.drop o).take n = (b.drop o).take n := by
 apply List.ext_getElem?
 intro i
 by_cases q : i < n
 ·rw [List.getElem?_take_of_lt q, List.getElem?_take_of_lt q, List.getElem?_drop, List.getElem?_drop, h i q]
 ·rw [List.getElem?_eq_none (by rw [List.length_take]; omega), List.getElem?_eq_none (by rw [List.length_take]; omega)]
theorem splice_get {xs c : List Value} {o : Nat} (h : o + xs.length ≤ c.length) (i : Nat) : (splice c o xs)[i]? = if o ≤ i ∧ i < o + xs.length then xs[i - o]? else c[i]? := by
 rw [splice_eq _ _ _ h]
 by_cases q : i < o
 ·rw [List.getElem?_append_left (by rw [List.length_take]; omega), List.getElem?_take_of_lt q, if_neg (by omega)]
 ·rw [List.getElem?_append_right (by rw [List.length_take]; omega), List.length_take, Nat.min_eq_left (by omega)]
  by_cases r : i < o + xs.length
  ·rw [List.getElem?_append_left (by omega), if_pos (by omega)]
  ·rw [List.getElem?_append_right (by omega), if_neg (by omega), List.getElem?_drop]
   congr 1; omega
theorem splice_len : ∀ (xs c : List Value) (o : Nat), (splice c o xs).length = c.length
 | [], c, o => rfl
 | x :: xs, c, o => by
  show (splice (c.set o x) (Nat.succ o) xs).length = _
  rw [splice_len xs, List.length_set]
theorem OW.put (s : OW e es h v l) (hes : ∀ x, (e x).length = es) (i : Nat) (x : α) (hi : i < l.length) :
  ∃ b o c cs, v = .slice (some ⟨b, o, none⟩) l.length c ∧ b < h.next ∧ h.get b = .cells cs es ∧ o + i * es + es ≤ cs.length ∧ OW e es (h.set b (.cells (splice cs (o + i * es) (e x)) es)) v (l.set i x) := by
 cases s with
 | nil => simp at hi
 | mk b o c l cs hb hc hcap hl hx =>
  have h1 : i * es + es ≤ (c / 2) * es := by rw [← Nat.succ_mul]; exact Nat.mul_le_mul_right es (by omega)
  have h2 : o + i * es + es ≤ cs.length := by omega
  refine ⟨b, o, c, cs, rfl, hb, hc, h2, ?_⟩
  have hls : (l.set i x).length = l.length := List.length_set
  rw [← hls]
  refine .mk b o c (l.set i x) _ (by rw [next_set]; exact hb) (get_set_same _ _ _) (by rw [hls]; exact hcap) (by rw [splice_len]; exact hl) fun j y hj => ?_
  have hjl : j < l.length := by rw [← hls]; exact (List.getElem?_eq_some_iff.1 hj).1
  rw [List.getElem?_set] at hj
  by_cases q : i = j
  ·subst q
   rw [if_pos rfl, if_pos hi] at hj
   cases hj
   apply List.ext_getElem?
   intro k
   by_cases kk : k < es
   ·rw [List.getElem?_take_of_lt kk, List.getElem?_drop, splice_get (by rw [hes]; omega), if_pos ⟨by omega, by rw [hes]; omega⟩, Nat.add_sub_cancel_left]
   ·rw [List.getElem?_eq_none (by rw [List.length_take]; omega), List.getElem?_eq_none (by rw [hes]; omega)]
  ·rw [if_neg q] at hj
   have h3 := hx j y hj
   rw [← h3]
   apply List.ext_getElem?
   intro k
   by_cases kk : k < es
   ·rw [List.getElem?_take_of_lt kk, List.getElem?_take_of_lt kk, List.getElem?_drop, List.getElem?_drop, splice_get (by rw [hes]; omega), if_neg]
    rw [hes]
    rintro ⟨q1, q2⟩
    rcases Nat.lt_or_gt_of_ne q with q3 | q3
    ·have := Nat.mul_le_mul_right es (show i + 1 ≤ j from q3)
     rw [Nat.succ_mul] at this
     omega
    ·have := Nat.mul_le_mul_right es (show j + 1 ≤ i from q3)
     rw [Nat.succ_mul] at this
     omega
   ·rw [List.getElem?_eq_none (by rw [List.length_take]; omega), List.getElem?_eq_none (by rw [List.length_take]; omega)]
theorem rows_eq (hes : ∀ x, (e x).length = es) {cs : List Value} : ∀ (l : List α) (o : Nat), o + l.length * es ≤ cs.length → (∀ i x, l[i]? = some x → (cs.drop (o + i * es)).take es = e x) → (cs.drop o).take (l.length * es) = l.flatMap e
 | [], o, _, _ => by simp
 | a :: l, o, hl, hx => by
  rw [List.length_cons, Nat.add_mul, Nat.one_mul] at hl
  have h0 := hx 0 a rfl
  rw [Nat.zero_mul, Nat.add_zero] at h0
  have h1 := rows_eq (cs := cs) hes l (o + es) (by omega) fun i x hi => by
   have := hx (i + 1) x (by simpa using hi)
   rw [Nat.add_mul, Nat.one_mul] at this
   rw [show o + es + i * es = o + (i * es + es) by omega]; exact this
  rw [List.flatMap_cons, ← h0, ← h1, List.length_cons, Nat.add_mul, Nat.one_mul, Nat.add_comm (l.length * es) es, List.take_add, List.drop_drop]
theorem SL.src (s : SL e es h v l) (hes : ∀ x, (e x).length = es) : srcCells h es v = some (l.length, l.flatMap e) := by
 cases s with
 | nil => rfl
 | mk b o c l cs hb hc hl hx hcap hq =>
  show ob (h.rd b o (l.length * es)) (fun c => some (l.length, c)) = _
  rw [rd_eq, rdc_of hc _ _ hl, rows_eq hes l o hl hx]
  rfl
theorem ow_append {s : Value} {l' : List α} (hes : ∀ x, (e x).length = es) (hes1 : 1 ≤ es) (hsc : ∀ x, (e x).all scal = true) (ho : OW e es h s l) (y : Nat) (hb1 : (l.length + l'.length) * y ≤ 1099511627776) (hb2 : l.length + l'.length ≤ 1099511627776) :
  ∃ a c, s = .slice a l.length c ∧ WPo (apGo h es y l.length c a l'.length (l'.flatMap e)) fun q => OW e es q.2 q.1 (l ++ l') ∧ Mod (blkOf s) h q.2 ∧ ∀ i, blkOf q.1 i → blkOf s i ∨ h.next ≤ i := by
 have hnew : (l'.flatMap e).all scal = true := by
  rw [List.all_eq_true]
  intro u hu
  obtain ⟨x, _, hx⟩ := List.mem_flatMap.1 hu
  exact List.all_eq_true.1 (hsc x) u hx
 have hbeq : Nat.beq (l'.flatMap e).length (l'.length * es) = true := beq_nat (flatMap_len hes l')
 have fin : ∀ (h1 : Heap) (x : List α), x.length = l.length + l'.length → h.next ≤ h1.next → OW e es (h1.push (.cells (x.flatMap e) es)) (.slice (some ⟨h1.next, 0, none⟩) (l.length + l'.length) (2 * (l.length + l'.length))) x := fun h1 x hx hn =>
  OW.new hes (by rw [next_push]; omega) (get_push_new _ _) (by omega) (by omega)
 cases ho with
 | nil =>
  refine ⟨_, _, rfl, ?_⟩
  unfold apGo
  rw [hbeq, gd_true]
  by_cases q : l'.length = 0
  ·have : l' = [] := List.length_eq_zero_iff.1 q
   subst this
   exact ⟨(.slice none 0 1, h), rfl, .nil, Mod.refl _ _, fun i hi => .inl hi⟩
  ·have hble : Nat.ble (([] : List α).length + l'.length) (1 / 2) = false := by
    cases hq : Nat.ble (([] : List α).length + l'.length) (1 / 2) with
    | false => rfl
    | true => have := Nat.le_of_ble_eq_true hq; simp only [List.length_nil] at this; omega
   rw [hble, cnd_false, ble_nat hb1, gd_true, ble_nat hb2, gd_true]
   show WPo (apNew h es 0 l'.length (l'.flatMap e)) _
   refine ⟨_, rfl, ?_, (Mod.refl _ _).push _, fun i hi => .inr (by cases hi; exact Nat.le_refl _)⟩
   have := fin h l' (by simp) (Nat.le_refl _)
   simpa using this
 | mk b o c l cs hb hc hcap hl hx =>
  refine ⟨_, _, rfl, ?_⟩
  unfold apGo
  rw [hbeq, gd_true]
  have hmul := Nat.mul_le_mul_right es hcap
  by_cases q : l.length + l'.length ≤ c / 2
  ·rw [ble_nat q, cnd_true]
   have hmul2 := Nat.mul_le_mul_right es q
   rw [Nat.add_mul] at hmul2
   have hfit : o + l.length * es + (l'.flatMap e).length ≤ cs.length := by rw [flatMap_len hes]; omega
   show WPo (ob (h.wr b (o + l.length * es) (l'.flatMap e)) fun h' => some (Value.slice (some ⟨b, o, none⟩) (l.length + l'.length) c, h')) _
   rw [wr_eq, hc, wrc_c _ _ _ _ _ _ hfit hnew, ob_s]
   refine ⟨_, rfl, ?_, (Mod.refl _ _).set _ _ fun _ => rfl, fun i hi => .inl hi⟩
   have := OW.mk (e := e) (es := es) (h := h.set b (.cells (splice cs (o + l.length * es) (l'.flatMap e)) es)) b o c (l ++ l') (splice cs (o + l.length * es) (l'.flatMap e)) hb (get_set_same _ _ _) (by rw [List.length_append]; exact q) (by rw [splice_length]; exact hl) (fun i x hi => by
    have hin : i < l.length + l'.length := by have := (List.getElem?_eq_some_iff.1 hi).1; rwa [List.length_append] at this
    by_cases r : i < l.length
    ·rw [List.getElem?_append_left r] at hi
     rw [← hx i x hi]
     refine drop_take_ext fun j hj => ?_
     rw [splice_get hfit, if_neg]
     have : (i + 1) * es ≤ l.length * es := Nat.mul_le_mul_right _ r
     rw [Nat.add_mul, Nat.one_mul] at this
     omega
    ·rw [List.getElem?_append_right (by omega)] at hi
     rw [← flatMap_at hes l' _ x hi]
     apply List.ext_getElem?
     intro j
     by_cases hj : j < es
     ·rw [List.getElem?_take_of_lt hj, List.getElem?_take_of_lt hj, List.getElem?_drop, List.getElem?_drop, splice_get hfit]
      have e1 : i * es = l.length * es + (i - l.length) * es := by rw [← Nat.add_mul]; congr 1; omega
      have hlt : (i - l.length + 1) * es ≤ l'.length * es := Nat.mul_le_mul_right _ (by omega)
      rw [Nat.add_mul, Nat.one_mul] at hlt
      rw [if_pos (by rw [flatMap_len hes]; omega)]
      congr 1; omega
     ·rw [List.getElem?_eq_none (by rw [List.length_take]; omega), List.getElem?_eq_none (by rw [List.length_take]; omega)])
   rw [List.length_append] at this
   exact this
  ·have hble : Nat.ble (l.length + l'.length) (c / 2) = false := by
    cases hq : Nat.ble (l.length + l'.length) (c / 2) with
    | false => rfl
    | true => exact absurd (Nat.le_of_ble_eq_true hq) q
   rw [hble, cnd_false, ble_nat hb1, gd_true, ble_nat hb2, gd_true]
   have hold : h.rd b o (l.length * es) = some (l.flatMap e) := by
    rw [rd_eq, hc, rdc_c _ _ _ _ (by omega), rows_eq hes l o (by omega) hx]
   show WPo (ob (h.rd b o (l.length * es)) fun old => cnd (Nat.beq (c % 2) 1) (apNew h es l.length l'.length (old ++ l'.flatMap e)) (ob (cellsEs (h.get b)) fun es' => gd (Nat.beq es' es) (gd ((l'.flatMap e).all scal) (apNew (h.set b .dead) es l.length l'.length (old ++ l'.flatMap e))))) _
   rw [hold, ob_s]
   cases Nat.beq (c % 2) 1 with
   | true =>
    rw [cnd_true]
    refine ⟨_, rfl, ?_, (Mod.refl _ _).push _, fun i hi => .inr (by cases hi; exact Nat.le_refl _)⟩
    rw [← List.flatMap_append]
    exact fin h (l ++ l') List.length_append (Nat.le_refl _)
   | false =>
    rw [cnd_false, hc]
    show WPo (gd (Nat.beq es es) _) _
    rw [beq_nat rfl, gd_true, hnew, gd_true]
    refine ⟨_, rfl, ?_, ((Mod.refl _ _).set _ _ fun _ => rfl).push _, fun i hi => .inr (by cases hi; exact Nat.le_refl _)⟩
    rw [← List.flatMap_append]
    exact fin (h.set b .dead) (l ++ l') List.length_append (Nat.le_refl _)
theorem append_ev {P : Program} {st xt : TypeId} {y : Nat} {s x : Value} {l' : List α} (hb : apT P st xt = some (es, y)) (hes : ∀ x, (e x).length = es) (hes1 : 1 ≤ es) (hsc : ∀ x, (e x).all scal = true) (ho : OW e es h s l) (hx : SL e es h x l')
  (hb1 : (l.length + l'.length) * y ≤ 1099511627776) (hb2 : l.length + l'.length ≤ 1099511627776) :
  WPo (APPEND P h st xt s x) fun q => OW e es q.2 q.1 (l ++ l') ∧ Mod (blkOf s) h q.2 ∧ ∀ i, blkOf q.1 i → blkOf s i ∨ h.next ≤ i := by
 obtain ⟨a, c, rfl, hw⟩ := ow_append hes hes1 hsc ho y hb1 hb2 (l' := l')
 unfold APPEND
 rw [append_ob, hb, ob_s, hx.src hes, ob_s]
 exact hw
theorem append_own {P : Program} {st xt : TypeId} {y : Nat} {s x : Value} {l' : List α} {h0 : Heap} {Q : Value × Heap → Prop} (hb : apT P st xt = some (es, y)) (hes : ∀ x, (e x).length = es) (hes1 : 1 ≤ es) (hsc : ∀ x, (e x).all scal = true) (x0 : Ext h0 h) (ho : OW e es h s l) (hf : Fresh h0.next s) (hx : SL e es h x l')
  (hb1 : (l.length + l'.length) * y ≤ 1099511627776) (hb2 : l.length + l'.length ≤ 1099511627776)
  (k : ∀ v h', OW e es h' v (l ++ l') → Fresh h0.next v → Ext h0 h' → Mod (blkOf s) h h' → (∀ i, blkOf v i → blkOf s i ∨ h.next ≤ i) → Q (v, h')) : WPo (APPEND P h st xt s x) Q := by
 refine (append_ev hb hes hes1 hsc ho hx hb1 hb2).mono ?_
 rintro ⟨v, h'⟩ ⟨a, b, c⟩
 refine k v h' a (fun i hi => ?_) ?_ b c
 ·rcases c i hi with q | q
  ·exact hf i q
  ·exact Nat.le_trans x0.le q
 ·exact ⟨Nat.le_trans x0.le b.le, fun i hi => (b.old i (Nat.lt_of_lt_of_le hi x0.le) fun q => by have := hf i q; omega).trans (x0.old i hi)⟩
end

structure Gr (s : Value) (h : Heap) (v : Value) (h' : Heap) : Prop where
 le : h.next ≤ h'.next
 old : ∀ b, b < h.next → ¬ blkOf s b → h'.get b = h.get b
 src : ∀ i, blkOf v i → blkOf s i ∨ h.next ≤ i
theorem Gr.refl (s : Value) (h : Heap) : Gr s h s h := ⟨Nat.le_refl _, fun _ _ _ => rfl, fun _ => .inl⟩
theorem Gr.trans {s v w : Value} {a b c : Heap} (h : Gr s a v b) (k : Gr v b w c) : Gr s a w c := ⟨Nat.le_trans h.le k.le, fun i hi hs => (k.old i (Nat.lt_of_lt_of_le hi h.le) (fun q => by rcases h.src i q with q | q; exact hs q; omega)).trans (h.old i hi hs), fun i hi => by
 rcases k.src i hi with q | q
 ·exact h.src i q
 ·exact .inr (Nat.le_trans h.le q)⟩
theorem Gr.ext {s v : Value} {a b c : Heap} (h : Gr s a v b) (k : Ext b c) : Gr s a v c := ⟨Nat.le_trans h.le k.le, fun i hi hs => (k.old i (Nat.lt_of_lt_of_le hi h.le)).trans (h.old i hi hs), h.src⟩
theorem Gr.push {s v : Value} {a b : Heap} (h : Gr s a v b) (x : Blk) : Gr s a v (b.push x) := h.ext ((Ext.refl b).push x)
theorem Gr.mod {s v : Value} {a b : Heap} (h : Gr s a v b) : Mod (blkOf s) a b := ⟨h.le, h.old⟩
theorem Gr.fresh {s v : Value} {a b : Heap} {n : Nat} (h : Gr s a v b) (hf : Fresh n s) (hn : n ≤ a.next) : Fresh n v := fun i hi => by
 rcases h.src i hi with q | q
 ·exact hf i q
 ·omega
theorem Gr.ext0 {s v : Value} {a b h0 : Heap} (h : Gr s a v b) (x : Ext h0 a) (hf : Fresh h0.next s) : Ext h0 b := ⟨Nat.le_trans x.le h.le, fun i hi => (h.old i (Nat.lt_of_lt_of_le hi x.le) (fun q => by have := hf i q; omega)).trans (x.old i hi)⟩
theorem Gr.new {h : Heap} {x : Blk} {o m c : Nat} {w : Value} {h' : Heap} (g : Gr (.slice (some ⟨h.next, o, none⟩) m c) (h.push x) w h') : Ext h h' ∧ Fresh h.next w := ⟨g.ext0 ((Ext.refl h).push x) (Fresh.mk _ _ _ (Nat.le_refl _)), g.fresh (Fresh.mk _ _ _ (Nat.le_refl _)) (by rw [next_push]; omega)⟩
theorem Gr.new' {h : Heap} {x : Blk} {b o m c : Nat} {w : Value} {h' : Heap} (g : Gr (.slice (some ⟨b, o, none⟩) m c) (h.push x) w h') (hb : b = h.next) : Ext h h' ∧ Fresh h.next w := by
 subst hb
 exact g.new
theorem append_gr {α : Type} {e : α → List Value} {es : Nat} {h : Heap} {l : List α} {P : Program} {st xt : TypeId} {y : Nat} {s x : Value} {l' : List α} {Q : Value × Heap → Prop} (hb : apT P st xt = some (es, y)) (hes : ∀ x, (e x).length = es) (hes1 : 1 ≤ es) (hsc : ∀ x, (e x).all scal = true) (ho : OW e es h s l) (hx : SL e es h x l')
  (hb1 : (l.length + l'.length) * y ≤ 1099511627776) (hb2 : l.length + l'.length ≤ 1099511627776)
  (k : ∀ v h', OW e es h' v (l ++ l') → Gr s h v h' → Q (v, h')) : WPo (APPEND P h st xt s x) Q := by
 refine (append_ev hb hes hes1 hsc ho hx hb1 hb2).mono ?_
 rintro ⟨v, h'⟩ ⟨a, b, c⟩
 exact k v h' a ⟨b.le, b.old, c⟩
/-! ## cuts -/
theorem zeroRow_get (z : List Value) (n i : Nat) : (zeroRow z n)[i]? = if i < n * z.length then some (z.getD (i % z.length) undef) else none := by
 unfold zeroRow
 rw [List.getElem?_map]
 by_cases q : i < n * z.length
 ·rw [if_pos q, List.getElem?_range q]; rfl
 ·rw [if_neg q, List.getElem?_eq_none (by simp; omega)]; rfl
theorem zeroRow_z (z : List Value) : zeroRow z 0 = [] := by
 unfold zeroRow
 simp
theorem zeroRow_s (z : List Value) (n : Nat) : zeroRow z (n + 1) = z ++ zeroRow z n := by
 apply List.ext_getElem?
 intro i
 rw [zeroRow_get]
 by_cases q : i < z.length
 ·rw [List.getElem?_append_left q, if_pos (by rw [Nat.add_mul]; omega), Nat.mod_eq_of_lt q, List.getD_eq_getElem?_getD, List.getElem?_eq_getElem q]
  rfl
 ·rw [List.getElem?_append_right (by omega), zeroRow_get, Nat.add_mul, Nat.one_mul]
  by_cases r : i - z.length < n * z.length
  ·rw [if_pos r, if_pos (by omega), Nat.mod_eq_sub_mod (by omega)]
  ·rw [if_neg r, if_neg (by omega)]
theorem natOf_nat (k : IntKind) (n : Nat) : natOf (.int k (n : Int)) = some n := by
 show (if (n : Int) < 0 then none else some (n : Int).toNat) = _
 rw [if_neg (by omega)]; rfl
theorem cut_ev {α : Type} {e : α → List Value} {es : Nat} {h : Heap} {P : Program} {t : TypeId} {v : Value} {l : List α} (ht : slT P t = some es) (hs : SL e es h v l) (lo hi : Option Value) (n m : Nat) (hlo : (match lo with | none => some 0 | some v => natOf v) = some n) (hhi : (match hi with | none => some l.length | some v => natOf v) = some m) (hn : n ≤ m) (hm : m ≤ l.length) :
  ∃ u, CUT P h t v lo hi none = some (u, h) ∧ SL e es h u ((l.take m).drop n) ∧ ∀ i, blkOf u i → blkOf v i := by
 have ends : ∀ c, l.length ≤ c → cutEnds l.length c lo hi none = some (n, m, c, false) := fun c hc => by
  unfold cutEnds
  cases lo with
  | none =>
   cases hlo
   cases hi with
   | none => cases hhi; simp only [cnd_false]
   | some v => simp only at hhi; simp only [hhi, ble_nat (Nat.le_trans hm hc), cnd_true]
  | some u =>
   simp only at hlo
   cases hi with
   | none => cases hhi; simp only [cnd_false, hlo, ble_nat hn, cnd_true]
   | some v => simp only at hhi; simp only [hhi, ble_nat (Nat.le_trans hm hc), cnd_true, hlo, ble_nat hn]
 have hlen : ((l.take m).drop n).length = m - n := by rw [List.length_drop, List.length_take]; omega
 cases hs with
 | nil =>
  have e0 : cutEnds 0 0 lo hi none = some (n, m, 0, false) := ends 0 (Nat.le_refl _)
  rw [CUT_nil, ht, ob_s, show (1 / 2 : Nat) = 0 from rfl, e0, ob_s]
  simp only [List.length_nil] at hm
  have : n = 0 := by omega
  have : m = 0 := by omega
  subst n; subst m
  exact ⟨_, rfl, .nil, fun i hi => hi⟩
 | mk b o c l cs hb hc hl hx hcap hq =>
  rw [CUT_sl, ht, ob_s, ends _ hcap, ob_s]
  have hge : ∀ i x, ((l.take m).drop n)[i]? = some x → (cs.drop (o + n * es + i * es)).take es = e x := fun i x hi => by
   rw [List.getElem?_drop, List.getElem?_take] at hi
   split at hi
   ·have := hx _ x hi
    rw [Nat.add_mul] at this
    rw [Nat.add_assoc]; exact this
   ·cases hi
  have hle : m * es ≤ l.length * es := Nat.mul_le_mul_right _ hm
  have hsum : n * es + (m - n) * es = m * es := by rw [← Nat.add_mul]; congr 1; omega
  unfold evCutSl
  rw [Bool.false_or]
  by_cases od : c % 2 = 1
  ·rw [beq_nat od, cnd_true]
   refine ⟨_, rfl, ?_, fun i hi => by simpa [blkOf] using hi⟩
   by_cases hz : c / 2 = n
   ·have hmz : m = n := by omega
    subst hmz
    have hemp : (l.take m).drop m = [] := by rw [List.drop_eq_nil_iff, List.length_take]; omega
    rw [hemp, beq_nat hz, cnd_true, Nat.sub_self]
    exact .mk b o _ [] cs hb hc (by simp; omega) (fun i x hi => by simp at hi) (by simp) (.inl (by omega))
   ·have : Nat.beq (c / 2) n = false := by
     cases hq : Nat.beq (c / 2) n with
     | false => rfl
     | true => exact absurd (Nat.eq_of_beq_eq_true hq) hz
    rw [this, cnd_false]
    have hh := SL.mk (e := e) (es := es) (h := h) b (o + n * es) (2 * (c / 2 - n) + 1) ((l.take m).drop n) cs hb hc (by rw [hlen]; omega) hge (by rw [hlen]; omega) (.inl (by omega))
    rw [hlen] at hh
    exact hh
  ·obtain ⟨cs', hq⟩ := hq.resolve_left od
   have : Nat.beq (c % 2) 1 = false := by
    cases hb' : Nat.beq (c % 2) 1 with
    | false => rfl
    | true => exact absurd (Nat.eq_of_beq_eq_true hb') od
   rw [this, cnd_false, hq]
   show ∃ u, gd (Nat.beq es es) _ = _ ∧ _
   rw [beq_nat rfl, gd_true]
   refine ⟨_, rfl, ?_, fun i hi => by simpa [blkOf] using hi⟩
   have hh := SL.mk (e := e) (es := es) (h := h) b (o + n * es) (2 * (c / 2 - n)) ((l.take m).drop n) cs hb hc (by rw [hlen]; omega) hge (by rw [hlen]; omega) (.inr ⟨cs', hq⟩)
   rw [hlen] at hh
   exact hh

section
variable {α : Type} {e : α → List Value} {es : Nat} {h : Heap} {P : Program} {t : TypeId} {v : Value} {l : List α} (ht : slT P t = some es) (hs : SL e es h v l)
include ht hs
theorem cut_to (k : IntKind) (i : Int) (m : Nat) (hi : i = m) (hm : m ≤ l.length) : ∃ u, CUT P h t v none (some (.int k i)) none = some (u, h) ∧ SL e es h u (l.take m) ∧ ∀ i, blkOf u i → blkOf v i := by
 subst hi
 exact cut_ev ht hs none (some (.int k m)) 0 m rfl (natOf_nat k m) (Nat.zero_le _) hm
theorem cut_from (k : IntKind) (i : Int) (n : Nat) (hi : i = n) (hn : n ≤ l.length) : ∃ u, CUT P h t v (some (.int k i)) none none = some (u, h) ∧ SL e es h u (l.drop n) ∧ ∀ i, blkOf u i → blkOf v i := by
 subst hi
 obtain ⟨u, a, b, c⟩ := cut_ev ht hs (some (.int k n)) none n l.length (natOf_nat k n) rfl hn (Nat.le_refl _)
 rw [List.take_length] at b
 exact ⟨u, a, b, c⟩
end
/-! ## bytes, texts -/
noncomputable def byteE (b : UInt8) : List Value := [.int .u8 (b.toNat : Int)]
theorem byteE_len (b : UInt8) : (byteE b).length = 1 := rfl
theorem byteE_scal (b : UInt8) : (byteE b).all scal = true := rfl
theorem bytesOfL_flat (l : List UInt8) : bytesOfL (l.flatMap byteE) = some l := by
 induction l with
 | nil => rfl
 | cons b l ih =>
  rw [List.flatMap_cons]
  show (match bytesOfL (l.flatMap byteE) with | some r => some (UInt8.ofNat (b.toNat : Int).toNat :: r) | none => none) = _
  rw [ih]
  simp
noncomputable def strV (l : List UInt8) : Value := .string ⟨⟨l⟩⟩
theorem conv_str {P : Program} {h : Heap} {s d e : TypeId} {v : Value} {l : List UInt8} (hs : P.underlying s = some (.slice e)) (hd : P.underlying d = some .string) (he : P.underlying e = some (.int .u8)) (hv : SL byteE 1 h v l) : CONV P h s d v = some (strV l, h) := by
 unfold CONV
 cases hv with
 | nil =>
  show evConvSl P h s d none 0 1 = _
  unfold evConvSl
  simp only [hs, ob_s, sliceE, hd, isStrD, cnd_true, he, isU8D, gd_true, strOfSlice]
  rfl
 | mk b o c l cs hb hc hl hx hcap hq =>
  show evConvSl P h s d (some ⟨b, o, none⟩) l.length c = _
  unfold evConvSl
  simp only [hs, ob_s, sliceE, hd, isStrD, cnd_true, he, isU8D, gd_true, strOfSlice]
  have := rows_eq (e := byteE) (es := 1) (fun _ => rfl) l o hl hx
  rw [Nat.mul_one] at this hl
  rw [rd_eq, rdc_of hc _ _ hl, this, ob_s, bytesOfL_flat, ob_s, ob_s]
  rfl
theorem str_op (P : Program) (op : BinOp) (t : TypeId) (x y : Operand) (a b : List UInt8) (r : Value) (hg : eqGuard op t x y (strV a) (strV b) = pure ()) (hr : binOp op t (strV a) (strV b) = pure r) (hf : flat1 r = true) : evBin P op t x y (strV a) (strV b) = some r := by
 unfold evBin
 show orE none (cnd true (match absPure P (eqGuard op t x y (strV a) (strV b) >>= fun _ => binOp op t (strV a) (strV b)) with | some v => cnd (flat1 v) (some v) none | none => none) _) = _
 rw [hg, hr]
 show orE none (cnd true (cnd (flat1 r) (some r) none) _) = _
 rw [hf]
 rfl
theorem strV_toList (a : List UInt8) : (⟨⟨a⟩⟩ : ByteArray).toList = a := ByteArray.toList_eq _
theorem str_eql (P : Program) (t : TypeId) (x y : Operand) (a b : List UInt8) : evBin P .eql t x y (strV a) (strV b) = some (.bool (decide (a = b))) := by
 refine str_op P .eql t x y a b _ rfl ?_ rfl
 show Op.stringOp .eql ⟨⟨a⟩⟩ ⟨⟨b⟩⟩ = _
 unfold Op.stringOp
 rw [strV_toList, strV_toList]
 show pure (Value.bool (a == b)) = _
 rw [show (a == b) = decide (a = b) by cases h : a == b <;> simp_all]
theorem str_neq (P : Program) (t : TypeId) (x y : Operand) (a b : List UInt8) : evBin P .neq t x y (strV a) (strV b) = some (.bool (!decide (a = b))) := by
 refine str_op P .neq t x y a b _ rfl ?_ rfl
 show Op.stringOp .neq ⟨⟨a⟩⟩ ⟨⟨b⟩⟩ = _
 unfold Op.stringOp
 rw [strV_toList, strV_toList]
 show pure (Value.bool (!(a == b))) = _
 rw [show (a == b) = decide (a = b) by cases h : a == b <;> simp_all]

/-! ## bits -/
noncomputable def szK (k : IntKind) : Nat := match k with
 | .i8 | .u8 => 256
 | .i16 | .u16 => 65536
 | .i32 | .u32 => 4294967296
 | .i64 | .u64 => 18446744073709551616
theorem full_sz (k : IntKind) : fullK k = (szK k : Int) := by cases k <;> rfl
theorem natK_nat {k : IntKind} {n : Nat} (h : n < szK k) : natK k (n : Int) = n := by
 unfold natK
 rw [full_sz]
 show Int.toNat ((n : Int) % (szK k : Int)) = n
 rw [Int.emod_eq_of_lt (by omega) (by omega)]; rfl
theorem szK_pow (k : IntKind) : szK k = 2 ^ bitsK k := by cases k <;> rfl
theorem wrapF_nat {k : IntKind} {n : Nat} (hk : sgnK k = false) (h : n < szK k) : wrapF k (n : Int) = n := wrapU hk ⟨by omega, by rw [full_sz]; omega⟩
section
variable (P : Program) (t : TypeId) (x y : Operand)
theorem bin_xorN {k : IntKind} {n m : Nat} (hk : sgnK k = false) (hn : n < szK k) (hm : m < szK k) : evBin P .xor t x y (.int k (n : Int)) (.int k (m : Int)) = some (.int k ((n ^^^ m : Nat) : Int)) := by
 refine bin_int _ _ _ _ _ _ _ _ _ ?_ rfl
 show some (Value.int k (wrapF k (Int.ofNat (Nat.xor (natK k n) (natK k m))))) = _
 rw [natK_nat hn, natK_nat hm]
 show some (Value.int k (wrapF k ((n ^^^ m : Nat) : Int))) = _
 rw [wrapF_nat hk (by rw [szK_pow] at hn hm ⊢; exact Nat.xor_lt_two_pow hn hm)]
theorem bin_andN {k : IntKind} {n m : Nat} (hk : sgnK k = false) (hn : n < szK k) (hm : m < szK k) : evBin P .and t x y (.int k (n : Int)) (.int k (m : Int)) = some (.int k ((n &&& m : Nat) : Int)) := by
 refine bin_int _ _ _ _ _ _ _ _ _ ?_ rfl
 show some (Value.int k (wrapF k (Int.ofNat (Nat.land (natK k n) (natK k m))))) = _
 rw [natK_nat hn, natK_nat hm]
 show some (Value.int k (wrapF k ((n &&& m : Nat) : Int))) = _
 rw [wrapF_nat hk (Nat.lt_of_le_of_lt Nat.and_le_left hn)]
theorem bin_orN {k : IntKind} {n m : Nat} (hk : sgnK k = false) (hn : n < szK k) (hm : m < szK k) : evBin P .or t x y (.int k (n : Int)) (.int k (m : Int)) = some (.int k ((n ||| m : Nat) : Int)) := by
 refine bin_int _ _ _ _ _ _ _ _ _ ?_ rfl
 show some (Value.int k (wrapF k (Int.ofNat (Nat.lor (natK k n) (natK k m))))) = _
 rw [natK_nat hn, natK_nat hm]
 show some (Value.int k (wrapF k ((n ||| m : Nat) : Int))) = _
 rw [wrapF_nat hk (by rw [szK_pow] at hn hm ⊢; exact Nat.or_lt_two_pow hn hm)]
theorem bin_shrN {k j : IntKind} {n m : Nat} (hm : m ≤ bitsK k) : evBin P .shr t x y (.int k (n : Int)) (.int j (m : Int)) = some (.int k ((n >>> m : Nat) : Int)) := by
 unfold evBin fastBin fastI
 have h1 : shN k (m : Int) = m := by
  unfold shN
  show cnd (Nat.ble m (bitsK k)) m (bitsK k) = m
  rw [ble_nat hm, cnd_true]
 have : shF .shr k (n : Int) (m : Int) = some (.int k ((n >>> m : Nat) : Int)) := by
  show cnd (decide (0 ≤ (m : Int))) (shrF k (shN k m) (n : Int)) none = _
  rw [decide_eq_true (by omega), cnd_true, h1]
  rfl
 simp only [isSh, cnd_true]
 have e2 : fastI .shr k j (n : Int) (m : Int) = some (.int k ((n >>> m : Nat) : Int)) := by
  unfold fastI
  simp only [isSh, cnd_true, this]
 rw [this]
 rfl
end
section
variable (P : Program) (t : TypeId) (x y : Operand)
theorem bin_xorI {k : IntKind} {a b : Int} (hk : sgnK k = false) (ha : 0 ≤ a ∧ a < (szK k : Nat)) (hb : 0 ≤ b ∧ b < (szK k : Nat)) : evBin P .xor t x y (.int k a) (.int k b) = some (.int k ((a.toNat ^^^ b.toNat : Nat) : Int)) := by
 obtain ⟨n, rfl⟩ := Int.eq_ofNat_of_zero_le ha.1
 obtain ⟨m, rfl⟩ := Int.eq_ofNat_of_zero_le hb.1
 exact bin_xorN P t x y hk (by omega) (by omega)
theorem bin_andI {k : IntKind} {a b : Int} (hk : sgnK k = false) (ha : 0 ≤ a ∧ a < (szK k : Nat)) (hb : 0 ≤ b ∧ b < (szK k : Nat)) : evBin P .and t x y (.int k a) (.int k b) = some (.int k ((a.toNat &&& b.toNat : Nat) : Int)) := by
 obtain ⟨n, rfl⟩ := Int.eq_ofNat_of_zero_le ha.1
 obtain ⟨m, rfl⟩ := Int.eq_ofNat_of_zero_le hb.1
 exact bin_andN P t x y hk (by omega) (by omega)
theorem bin_orI {k : IntKind} {a b : Int} (hk : sgnK k = false) (ha : 0 ≤ a ∧ a < (szK k : Nat)) (hb : 0 ≤ b ∧ b < (szK k : Nat)) : evBin P .or t x y (.int k a) (.int k b) = some (.int k ((a.toNat ||| b.toNat : Nat) : Int)) := by
 obtain ⟨n, rfl⟩ := Int.eq_ofNat_of_zero_le ha.1
 obtain ⟨m, rfl⟩ := Int.eq_ofNat_of_zero_le hb.1
 exact bin_orN P t x y hk (by omega) (by omega)
theorem bin_shrI {k j : IntKind} {a b : Int} (ha : 0 ≤ a) (hb : 0 ≤ b ∧ b ≤ (bitsK k : Nat)) : evBin P .shr t x y (.int k a) (.int j b) = some (.int k ((a.toNat >>> b.toNat : Nat) : Int)) := by
 obtain ⟨n, rfl⟩ := Int.eq_ofNat_of_zero_le ha
 obtain ⟨m, rfl⟩ := Int.eq_ofNat_of_zero_le hb.1
 exact bin_shrN P t x y (by omega)
end
theorem UN_xorI {P : Program} {h : Heap} {k : IntKind} {a : Int} (hk : sgnK k = false) (ha : 0 ≤ a ∧ a < (szK k : Nat)) : UN P h .xor (.int k a) = some (.int k (((szK k - 1) ^^^ a.toNat : Nat) : Int), h) := by
 obtain ⟨n, rfl⟩ := Int.eq_ofNat_of_zero_le ha.1
 rw [UN_xor, hk, cnd_false]
 have e : (fullK k).sub 1 = ((szK k - 1 : Nat) : Int) := by cases k <;> rfl
 have hpos : szK k - 1 < szK k := by cases k <;> decide
 have hn : n < szK k := by omega
 rw [e, natK_nat hpos, natK_nat hn]
 show some (Value.int k (wrapF k (((szK k - 1) ^^^ n : Nat) : Int)), h) = _
 rw [wrapF_nat hk (by rw [szK_pow] at hn hpos ⊢; exact Nat.xor_lt_two_pow hpos hn)]
 rfl
theorem bin_shr64 (P : Program) (t : TypeId) (x y : Operand) {k j : IntKind} {a b : Int} (hb : 0 ≤ b ∧ b ≤ (bitsK k : Nat)) : evBin P .shr t x y (.int k a) (.int j b) = some (.int k (a / 2 ^ b.toNat)) := by
 obtain ⟨m, rfl⟩ := Int.eq_ofNat_of_zero_le hb.1
 rw [toNat_nat]
 cases a with
 | ofNat n =>
  have := bin_shrN P t x y (k := k) (j := j) (n := n) (m := m) (by omega)
  rw [show Int.ofNat n = (n : Int) from rfl, this, Nat.shiftRight_eq_div_pow]
  congr 2
 | negSucc n =>
  have h1 : absPure P (eqGuard .shr t x y (.int k (Int.negSucc n)) (.int j (m : Int)) >>= fun _ => binOp .shr t (.int k (Int.negSucc n)) (.int j (m : Int))) = some (.int k (Int.negSucc n / 2 ^ m)) := by
   rw [absPure_bind]
   show absPure P (Op.shift .shr k (Int.negSucc n) j (m : Int)) = _
   unfold Op.shift
   rw [if_neg (by omega)]
   have hm : min ((m : Int).toNat) k.bits = m := by
    have : k.bits = bitsK k := by cases k <;> rfl
    rw [this, toNat_nat]
    omega
   rw [hm]
   show some (Value.int k ((Int.negSucc n).fdiv (2 ^ m))) = _
   rw [Int.fdiv_eq_ediv_of_nonneg _ (Int.le_of_lt (Int.pow_pos (by decide)))]
  have h2 : fastBin .shr (.int k (Int.negSucc n)) (.int j (m : Int)) = none := by
   have e0 : fastBin .shr (.int k (Int.negSucc n)) (.int j (m : Int)) = shF .shr k (Int.negSucc n) (m : Int) := rfl
   rw [e0]
   show cnd (decide (0 ≤ (m : Int))) (shrF k (shN k m) (Int.negSucc n)) none = none
   cases decide (0 ≤ (m : Int)) <;> rfl
  unfold evBin
  rw [h2]
  show orE none (cnd true (match absPure P (eqGuard .shr t x y (.int k (Int.negSucc n)) (.int j (m : Int)) >>= fun _ => binOp .shr t (.int k (Int.negSucc n)) (.int j (m : Int))) with | some v => cnd (flat1 v) (some v) none | none => none) _) = _
  rw [h1]
  rfl
theorem bin_shl64 (P : Program) (t : TypeId) (x y : Operand) {k j : IntKind} {a b : Int} (hb : 0 ≤ b ∧ b ≤ (bitsK k : Nat)) : evBin P .shl t x y (.int k a) (.int j b) = some (.int k (wrapF k (a * 2 ^ b.toNat))) := by
 obtain ⟨m, rfl⟩ := Int.eq_ofNat_of_zero_le hb.1
 have h1 : shN k (m : Int) = m := by
  unfold shN
  show cnd (Nat.ble m (bitsK k)) m (bitsK k) = m
  rw [ble_nat (by omega), cnd_true]
 have h2 : fastBin .shl (.int k a) (.int j (m : Int)) = some (.int k (wrapF k (a * 2 ^ m))) := by
  have e0 : fastBin .shl (.int k a) (.int j (m : Int)) = shF .shl k a (m : Int) := rfl
  rw [e0]
  show cnd (decide (0 ≤ (m : Int))) (some (Value.int k (wrapF k (Int.mul a (Int.ofNat (Nat.pow 2 (shN k m))))))) none = _
  rw [decide_eq_true (by omega), cnd_true, h1]
  congr 3
 unfold evBin
 rw [h2, toNat_nat]
 rfl
/-! alike nothing? -/
section
variable {P : Program} {t : TypeId} (x y : Operand)
theorem eq_go (op : BinOp) (a b : Value) (hf : fastBin op a b = none) (hn : (flat a && flat b) = false) (r : Bool) (he : eqA P t a b = some r) : evBin P .eql t x y a b = some (.bool r) ∧ evBin P .neq t x y a b = some (.bool (!r)) := by
 have h1 : ∀ op, fastBin op a b = none := fun op => by
  unfold fastBin at hf ⊢
  cases a <;> first | rfl | (cases b <;> first | rfl | (simp [flat, flat1] at hn))
 unfold evBin
 rw [h1, h1, hn, cnd_false, cnd_false, he]
 exact ⟨rfl, rfl⟩
theorem eq_nilS (hu : isSl P t = true) (a : Option Addr) (n c m d : Nat) : evBin P .eql t x y (.slice a n c) (.slice none m d) = some (.bool a.isNone) ∧ evBin P .neq t x y (.slice a n c) (.slice none m d) = some (.bool (!a.isNone)) := by
 refine eq_go x y .eql _ _ rfl rfl _ ?_
 unfold isSl at hu
 unfold eqA
 split at hu
 ·rename_i e; rw [e]; cases a <;> rfl
 ·cases hu
theorem eql_nilS (hu : isSl P t = true) (a : Option Addr) (n c m d : Nat) : evBin P .eql t x y (.slice a n c) (.slice none m d) = some (.bool a.isNone) := (eq_nilS x y hu a n c m d).1
theorem neq_nilS (hu : isSl P t = true) (a : Option Addr) (n c m d : Nat) : evBin P .neq t x y (.slice a n c) (.slice none m d) = some (.bool (!a.isNone)) := (eq_nilS x y hu a n c m d).2
theorem eq_nilP (hu : isPt P t = true) (a : Option Addr) : evBin P .eql t x y (.pointer a) (.pointer none) = some (.bool a.isNone) ∧ evBin P .neq t x y (.pointer a) (.pointer none) = some (.bool (!a.isNone)) := by
 refine eq_go x y .eql _ _ rfl rfl _ ?_
 unfold isPt at hu
 unfold eqA
 split at hu
 ·rename_i e; rw [e]; cases a <;> rfl
 ·cases hu
theorem eql_nilP (hu : isPt P t = true) (a : Option Addr) : evBin P .eql t x y (.pointer a) (.pointer none) = some (.bool a.isNone) := (eq_nilP x y hu a).1
theorem neq_nilP (hu : isPt P t = true) (a : Option Addr) : evBin P .neq t x y (.pointer a) (.pointer none) = some (.bool (!a.isNone)) := (eq_nilP x y hu a).2
end
theorem bool_equal {P : Program} {t : TypeId} (hu : P.underlying t = some .bool) (a b : Bool) : absPure P (Op.equal t (.bool a) (.bool b)) = some (a == b) := by
 have h1 : absPure P (underlying t) = P.underlying t := by
  unfold underlying
  show absPure P (match P.underlying t with | some d => _ | none => _) = _
  rw [hu]
  rfl
 unfold Op.equal
 rw [show Op.maxDepth = 9999 + 1 from rfl]
 unfold Op.equalIn
 rw [absPure_bind, h1, hu, ob_some]
 rfl
theorem bool_eql (P : Program) (t : TypeId) (x y : Operand) (a b : Bool) (hu : P.underlying t = some .bool) : evBin P .eql t x y (.bool a) (.bool b) = some (.bool (a == b)) := by
 unfold evBin
 have : absPure P (eqGuard .eql t x y (.bool a) (.bool b) >>= fun _ => binOp .eql t (.bool a) (.bool b)) = some (.bool (a == b)) := by
  rw [absPure_bind, show absPure P (eqGuard .eql t x y (.bool a) (.bool b)) = some () from rfl, ob_some]
  show absPure P (Op.equal t (.bool a) (.bool b) >>= fun b => pure (Value.bool b)) = _
  rw [absPure_bind, bool_equal hu]
  rfl
 show orE none (cnd true (match absPure P (eqGuard .eql t x y (.bool a) (.bool b) >>= fun _ => binOp .eql t (.bool a) (.bool b)) with | some v => cnd (flat1 v) (some v) none | none => none) _) = _
 rw [this]
 rfl
theorem bool_neq (P : Program) (t : TypeId) (x y : Operand) (a b : Bool) (hu : P.underlying t = some .bool) : evBin P .neq t x y (.bool a) (.bool b) = some (.bool (a != b)) := by
 unfold evBin
 have : absPure P (eqGuard .neq t x y (.bool a) (.bool b) >>= fun _ => binOp .neq t (.bool a) (.bool b)) = some (.bool (a != b)) := by
  rw [absPure_bind, show absPure P (eqGuard .neq t x y (.bool a) (.bool b)) = some () from rfl, ob_some]
  show absPure P (Op.equal t (.bool a) (.bool b) >>= fun b => pure (Value.bool !b)) = _
  rw [absPure_bind, bool_equal hu]
  rfl
 show orE none (cnd true (match absPure P (eqGuard .neq t x y (.bool a) (.bool b) >>= fun _ => binOp .neq t (.bool a) (.bool b)) with | some v => cnd (flat1 v) (some v) none | none => none) _) = _
 rw [this]
 rfl
theorem isNone_n {α : Type} : (none : Option α).isNone = true := (rfl)
theorem isNone_s {α : Type} (a : α) : (some a).isNone = false := (rfl)
theorem szK_u8 : szK .u8 = 256 := (rfl)
theorem szK_u16 : szK .u16 = 65536 := (rfl)
theorem szK_u32 : szK .u32 = 4294967296 := (rfl)
theorem szK_u64 : szK .u64 = 18446744073709551616 := (rfl)
theorem bitsK_u8 : bitsK .u8 = 8 := (rfl)
theorem bitsK_u16 : bitsK .u16 = 16 := (rfl)
theorem bitsK_u32 : bitsK .u32 = 32 := (rfl)
theorem bitsK_u64 : bitsK .u64 = 64 := (rfl)
theorem bitsK_i64 : bitsK .i64 = 64 := (rfl)
attribute [go_sem] szK_u8 szK_u16 szK_u32 szK_u64 bitsK_u8 bitsK_u16 bitsK_u32 bitsK_u64 bitsK_i64 wrapF_nat bin_xorI bin_andI bin_orI bin_shrI UN_xorI eql_nilS neq_nilS eql_nilP neq_nilP isNone_n isNone_s zeroRow_z zeroRow_s str_eql str_neq bool_eql bool_neq ldV_eq
attribute [go_sem low] wrap64 inB_int
end Go.Proofs.YtddgcakiceodgaaGreat.EV
