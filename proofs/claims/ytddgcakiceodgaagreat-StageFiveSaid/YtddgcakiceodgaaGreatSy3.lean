/-
  SY, part 3: what stays, what a slice holds, rounds of a loop. No condition.
-/
import Derived.Test.YtddgcakiceodgaaGreatSy2
namespace Go.Proofs.YtddgcakiceodgaaGreat.EV
set_option linter.unusedVariables false
set_option linter.unusedSimpArgs false
open Go Go.RowKit

/-- what lay there lies as it lay -/
structure Ext (h h' : Heap) : Prop where
  le : h.next ≤ h'.next
  old : ∀ b, b < h.next → h'.get b = h.get b
theorem Ext.refl (h : Heap) : Ext h h := ⟨Nat.le_refl _, fun _ _ => rfl⟩
theorem Ext.trans {a b c : Heap} (h : Ext a b) (k : Ext b c) : Ext a c := ⟨Nat.le_trans h.le k.le, fun i hi => (k.old i (Nat.lt_of_lt_of_le hi h.le)).trans (h.old i hi)⟩
theorem Ext.push {a b : Heap} (h : Ext a b) (x : Blk) : Ext a (b.push x) := ⟨Nat.le_succ_of_le h.le, fun i hi => by rw [get_push_old x (Nat.lt_of_lt_of_le hi h.le)]; exact h.old i hi⟩
theorem Ext.set {a b : Heap} (h : Ext a b) (i : Nat) (x : Blk) (hi : a.next ≤ i) : Ext a (b.set i x) := ⟨h.le, fun j hj => by rw [get_set_ne x (by omega)]; exact h.old j hj⟩
theorem Ext.get {h h' : Heap} (e : Ext h h') {b : Nat} {x : Blk} (hb : b < h.next) (hx : h.get b = x) : h'.get b = x := (e.old b hb).trans hx
/-- but for some blocks -/
structure Mod (S : Nat → Prop) (h h' : Heap) : Prop where
  le : h.next ≤ h'.next
  old : ∀ b, b < h.next → ¬ S b → h'.get b = h.get b
theorem Ext.mod {h h' : Heap} (e : Ext h h') (S : Nat → Prop) : Mod S h h' := ⟨e.le, fun b hb _ => e.old b hb⟩
theorem Mod.refl (S : Nat → Prop) (h : Heap) : Mod S h h := ⟨Nat.le_refl _, fun _ _ _ => rfl⟩
theorem Mod.trans {S : Nat → Prop} {a b c : Heap} (h : Mod S a b) (k : Mod S b c) : Mod S a c := ⟨Nat.le_trans h.le k.le, fun i hi hs => (k.old i (Nat.lt_of_lt_of_le hi h.le) hs).trans (h.old i hi hs)⟩
theorem Mod.mono {S T : Nat → Prop} {a b : Heap} (h : Mod S a b) (k : ∀ i, i < a.next → S i → T i) : Mod T a b := ⟨h.le, fun i hi ht => h.old i hi fun hs => ht (k i hi hs)⟩
theorem Mod.push {S : Nat → Prop} {a b : Heap} (h : Mod S a b) (x : Blk) : Mod S a (b.push x) := h.trans ((Ext.refl b).push x |>.mod S)
theorem Mod.set {S : Nat → Prop} {a b : Heap} (h : Mod S a b) (i : Nat) (x : Blk) (hi : i < a.next → S i) : Mod S a (b.set i x) := ⟨h.le, fun j hj hs => by
  rw [get_set_ne x (fun e => hs (by subst e; exact hi hj))]; exact h.old j hj hs⟩
theorem Mod.ext {h h' : Heap} (e : Mod (fun _ => False) h h') : Ext h h' := ⟨e.le, fun b hb => e.old b hb fun q => q⟩
/-- new blocks may be turned at will -/
theorem Mod.drop {S : Nat → Prop} {a b c : Heap} (h : Mod S a b) (k : Mod (fun i => S i ∨ a.next ≤ i) b c) : Mod S a c := ⟨Nat.le_trans h.le k.le, fun i hi hs => (k.old i (Nat.lt_of_lt_of_le hi h.le) (fun q => q.elim hs (fun q => by omega))).trans (h.old i hi hs)⟩

/-- it comes to a value, and what lay there lies as it lay -/
noncomputable def Pu (x : VH) (h : Heap) (v : Value) : Prop := WPo x fun q => q.1 = v ∧ Ext h q.2
theorem Pu.mk {h h' : Heap} {v u : Value} (hv : u = v) (e : Ext h h') : Pu (some (u, h')) h v := ⟨_, rfl, hv, e⟩

theorem Pu.bind {x : VH} {h : Heap} {v : Value} {Q : Value × Heap → Prop} (p : Pu x h v) (k : ∀ h', Ext h h' → Q (v, h')) : WPo x Q := by
  obtain ⟨⟨u, h'⟩, e, e1, e2⟩ := p
  subst e1
  exact ⟨_, e, k h' e2⟩
/-- what may be read -/
noncomputable def cellsOf : Blk → Option (List Value)
  | .cells c _ => some c
  | .ro c => some c
  | _ => none
theorem rdc_of {x : Blk} {c : List Value} (h : cellsOf x = some c) (o n : Nat) (hl : o + n ≤ c.length) : rdc x o n = some ((c.drop o).take n) := by
  cases x <;> first | (cases h; done) | (cases h; first | exact rdc_c _ _ _ _ hl | exact rdc_r _ _ _ hl)
theorem rdc1_of {x : Blk} {c : List Value} (h : cellsOf x = some c) (o : Nat) : rdc1 x o = c[o]? := by
  cases x <;> first | (cases h; done) | (cases h; first | exact rdc1_c _ _ _ | exact rdc1_r _ _)

/-- a slice's value, and what it holds: each element in es cells -/
inductive SL {α : Type} (e : α → List Value) (es : Nat) (h : Heap) : Value → List α → Prop
  | nil : SL e es h (.slice none 0 1) []
  | mk (b o c : Nat) (l : List α) (cs : List Value) (hb : b < h.next) (hc : cellsOf (h.get b) = some cs) (hl : o + l.length * es ≤ cs.length)
      (hx : ∀ i x, l[i]? = some x → (cs.drop (o + i * es)).take es = e x) (hcap : l.length ≤ c / 2) (hq : c % 2 = 1 ∨ ∃ cs, h.get b = .cells cs es) : SL e es h (.slice (some ⟨b, o, none⟩) l.length c) l
section
variable {α : Type} {e : α → List Value} {es : Nat} {h h' : Heap} {v : Value} {l : List α}
theorem SL.ext (s : SL e es h v l) (x : Ext h h') : SL e es h' v l := by
  cases s with
  | nil => exact .nil
  | mk b o c l cs hb hc hl hx hcap hq => exact .mk b o c l cs (Nat.lt_of_lt_of_le hb x.le) (by rw [x.old b hb]; exact hc) hl hx hcap (by rw [x.old b hb]; exact hq)
/-- the block is not one of those -/
noncomputable def SLo (S : Nat → Prop) (v : Value) : Prop := match v with
  | .slice (some ⟨b, _, none⟩) _ _ => ¬ S b
  | _ => True
theorem SL.mod {S : Nat → Prop} (s : SL e es h v l) (x : Mod S h h') (ho : SLo S v) : SL e es h' v l := by
  cases s with
  | nil => exact .nil
  | mk b o c l cs hb hc hl hx hcap hq => exact .mk b o c l cs (Nat.lt_of_lt_of_le hb x.le) (by rw [x.old b hb ho]; exact hc) hl hx hcap (by rw [x.old b hb ho]; exact hq)
theorem SL.val (s : SL e es h v l) : ∃ a c, v = .slice a l.length c := by
  cases s with
  | nil => exact ⟨_, _, rfl⟩
  | mk b o c l cs hb hc hl hx hcap hq => exact ⟨_, _, rfl⟩
/-- an element, read -/
theorem SL.at (s : SL e es h v l) {i : Nat} {x : α} (hx : l[i]? = some x) (hlen : (e x).length = es) : ∃ b o c, v = .slice (some ⟨b, o, none⟩) l.length c ∧ b < h.next ∧ rdc (h.get b) (o + i * es) es = some (e x) ∧ ∀ j y, (e x)[j]? = some y → rdc1 (h.get b) (o + i * es + j) = some y := by
  cases s with
  | nil => simp at hx
  | mk b o c l cs hb hc hl hx' hcap hq =>
    have hi := (List.getElem?_eq_some_iff.1 hx).1
    have h1 := hx' i x hx
    have hle : (i + 1) * es ≤ l.length * es := Nat.mul_le_mul_right _ hi
    rw [Nat.add_mul, Nat.one_mul] at hle
    refine ⟨b, o, c, rfl, hb, ?_, fun j y hy => ?_⟩
    · rw [rdc_of hc _ _ (by omega), h1]
    · rw [rdc1_of hc]
      have hj := (List.getElem?_eq_some_iff.1 hy).1
      rw [← h1, List.getElem?_take_of_lt (by omega), List.getElem?_drop] at hy
      exact hy
end

/-- rounds of a loop: each goes on below its measure, or out -/
theorem LP_rule {P : Program} {O : Orc} {bad : List Nat} {ro : Option Nat} {n : Nat} {b : Code} (I : Nat → St → Prop) (Q : Exit × St → Prop)
    (step : ∀ m st, I m st → WPo (EU P O bad ro n b st) fun q => match q.1 with | .normal => ∃ k, k < m ∧ I k q.2 | _ => Q q) :
    ∀ (m : Nat) (st : St) (j : Nat), I m st → m < j → WPo (LP P O bad ro n b j st) Q := by
  intro m
  induction m using Nat.strongRecOn with
  | ind m ih =>
    intro st j hI hj
    obtain ⟨j, rfl⟩ : ∃ k, j = k + 1 := ⟨j - 1, by omega⟩
    rw [LP_succ]
    obtain ⟨q, e1, hq⟩ := step m st hI
    rw [e1, ob_s]
    obtain ⟨x, s⟩ := q
    cases x with
    | normal =>
      obtain ⟨k, hk, hI'⟩ := hq
      rw [loopK_n]
      exact ih k hk s j hI' (by omega)
    | _ => rw [loopK_o _ _ _ _ (by simp), WPo_some]; exact hq

theorem inB_nat {i n : Nat} (h : i < n) : inB (i : Int) n = true := by
  unfold inB
  simp [h]
theorem inB_int {i : Int} {n : Nat} (h : 0 ≤ i ∧ i < n) : inB i n = true := by
  unfold inB
  simp [h]
theorem toNat_nat (n : Nat) : ((n : Nat) : Int).toNat = n := Int.toNat_natCast n
theorem wrap64 {n : Int} (h : -9223372036854775808 ≤ n ∧ n < 9223372036854775808) : wrapF .i64 n = n := by
  have hm : Int.emod n 18446744073709551616 = n % 18446744073709551616 := rfl
  show cnd (true && decide ((9223372036854775808 : Int) ≤ Int.emod n 18446744073709551616)) (Int.emod n 18446744073709551616 - 18446744073709551616) (Int.emod n 18446744073709551616) = n
  rw [hm]
  by_cases q : (9223372036854775808 : Int) ≤ n % 18446744073709551616
  · rw [decide_eq_true q, Bool.true_and, cnd_true]; omega
  · rw [decide_eq_false q, Bool.true_and, cnd_false]; omega
theorem wrapU {k : IntKind} {n : Int} (hk : sgnK k = false) (h : 0 ≤ n ∧ n < fullK k) : wrapF k n = n := by
  unfold wrapF
  simp only [hk, Bool.false_and, cnd_false]
  exact Int.emod_eq_of_lt h.1 h.2
theorem wrap_succ {i : Nat} (h : i < 4611686018427387904) : wrapF .i64 ((i : Int) + 1) = ((i + 1 : Nat) : Int) := by
  rw [wrap64 (by omega)]; rfl
theorem wrap_pred {i : Nat} (h : 1 ≤ i ∧ i < 4611686018427387904) : wrapF .i64 ((i : Int) - 1) = ((i - 1 : Nat) : Int) := by
  rw [wrap64 (by omega)]; omega
attribute [go_sem] inB_nat toNat_nat wrap_succ wrap_pred

/-! ## two structs of plain numbers, alike -/
theorem absPure_bind {P : Program} {α β : Type} (s : Sem α) (f : α → Sem β) : absPure P (s >>= f) = ob (absPure P s) fun a => absPure P (f a) := by
  show absPure P (s.bind f) = _
  induction s with
  | pure a => rfl
  | program k ih => exact ih P
  | mark m k ih => exact ih
  | _ => rfl
theorem eq_struct {P : Program} {t : TypeId} {fs : Array Field} {xs ys : Array Value} (hu : P.underlying t = some (.struct fs)) (hs : P.stoodInHeld t = false) (c : Field → Bool)
    (hc : ∀ f ∈ fs.toList, f.name ≠ "_" ∧ absPure P (part f.type xs f.offset >>= fun u => part f.type ys f.offset >>= fun v => Op.equalIn 9999 f.type u v) = some (c f)) : absPure P (Op.equal t (.agg xs) (.agg ys)) = some (fs.toList.all c) := by
  have h1 : absPure P (underlying t) = P.underlying t := by
    unfold underlying
    show absPure P (match P.underlying t with | some d => _ | none => _) = _
    rw [hu]
    rfl
  unfold Op.equal
  rw [show Op.maxDepth = 9999 + 1 from rfl]
  unfold Op.equalIn
  rw [absPure_bind, h1, hu, ob_some]
  simp only []
  rw [absPure_bind]
  show absPure P (if P.stoodInHeld t = true then _ else _) = _
  rw [if_neg (by rw [hs]; simp), absPure_bind, ← Array.forIn_toList]
  have key : ∀ (l : List Field) (b : MProd (Option Bool) Unit ⊕ Unit), True := fun _ _ => trivial
  clear key
  generalize fs.toList = l at hc ⊢
  induction l with
  | nil => rfl
  | cons f l ih =>
    obtain ⟨h2, h3⟩ := hc f (List.mem_cons_self ..)
    rw [List.forIn_cons, absPure_bind, if_pos h2]
    rw [absPure_bind] at h3
    obtain ⟨u, h4, h3⟩ := ob_inv h3
    rw [absPure_bind] at h3
    obtain ⟨v, h5, h3⟩ := ob_inv h3
    rw [absPure_bind, h4, ob_some, absPure_bind, h5, ob_some, absPure_bind, h3, ob_some]
    cases hq : c f with
    | true =>
      rw [if_neg (by simp), List.all_cons, hq, Bool.true_and]
      exact ih fun g hg => hc g (List.mem_cons_of_mem _ hg)
    | false =>
      rw [if_pos (by simp), List.all_cons, hq, Bool.false_and]
      rfl
theorem bin_eqlS {P : Program} {t : TypeId} {x y : Operand} {xs ys : Array Value} {r : Bool} (h : absPure P (Op.equal t (.agg xs) (.agg ys)) = some r) (hg : absPure P (eqGuard .eql t x y (.agg xs) (.agg ys)) = some ()) (h1 : flat (.agg xs) = true) (h2 : flat (.agg ys) = true) : evBin P .eql t x y (.agg xs) (.agg ys) = some (.bool r) := by
  unfold evBin
  rw [h1, h2]
  have : absPure P (eqGuard .eql t x y (.agg xs) (.agg ys) >>= fun _ => binOp .eql t (.agg xs) (.agg ys)) = some (.bool r) := by
    rw [absPure_bind, hg, ob_some]
    show absPure P (Op.equal t (.agg xs) (.agg ys) >>= fun b => pure (Value.bool b)) = _
    rw [absPure_bind, h]
    rfl
  show orE none (cnd true (match absPure P (eqGuard .eql t x y (.agg xs) (.agg ys) >>= fun _ => binOp .eql t (.agg xs) (.agg ys)) with | some v => cnd (flat1 v) (some v) none | none => none) _) = _
  rw [this]
  rfl
theorem bin_neqS {P : Program} {t : TypeId} {x y : Operand} {xs ys : Array Value} {r : Bool} (h : absPure P (Op.equal t (.agg xs) (.agg ys)) = some r) (hg : absPure P (eqGuard .neq t x y (.agg xs) (.agg ys)) = some ()) (h1 : flat (.agg xs) = true) (h2 : flat (.agg ys) = true) : evBin P .neq t x y (.agg xs) (.agg ys) = some (.bool (!r)) := by
  unfold evBin
  rw [h1, h2]
  have : absPure P (eqGuard .neq t x y (.agg xs) (.agg ys) >>= fun _ => binOp .neq t (.agg xs) (.agg ys)) = some (.bool (!r)) := by
    rw [absPure_bind, hg, ob_some]
    show absPure P (Op.equal t (.agg xs) (.agg ys) >>= fun b => pure (Value.bool (!b))) = _
    rw [absPure_bind, h]
    rfl
  show orE none (cnd true (match absPure P (eqGuard .neq t x y (.agg xs) (.agg ys) >>= fun _ => binOp .neq t (.agg xs) (.agg ys)) with | some v => cnd (flat1 v) (some v) none | none => none) _) = _
  rw [this]
  rfl
end Go.Proofs.YtddgcakiceodgaaGreat.EV
