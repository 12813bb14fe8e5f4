/-
  EV, part 1: a plain evaluator of the model's code over an own, relative memory (blocks by number, from nought on; what a slice may bear is known at least). Definitions alone.
-/
import Derived.RangeFuncLeaves
import Derived.OrdersIn
import Derived.Below
namespace Go.Proofs.YtddgcakiceodgaaGreat.EV
set_option linter.unusedVariables false
set_option linter.unusedSimpArgs false
open Go

/-- where a block of the evaluator's lies: its block, the shift, how many cells that block has, the size of an element -/
structure Loc where
  blk : Nat
  sh : Nat
  size : Nat
  es : Nat

/-- a choice -/
noncomputable def cnd {α : Type} (b : Bool) (x y : α) : α := Bool.rec y x b
@[simp] theorem cnd_true {α : Type} (x y : α) : cnd true x y = x := rfl
@[simp] theorem cnd_false {α : Type} (x y : α) : cnd false x y = y := rfl
@[simp] theorem cnd_self {α : Type} (b : Bool) (x : α) : cnd b x x = x := by cases b <;> rfl

/-- a tree of places from nought on -/
inductive T (α : Type) where
  | nil
  | node (v : α) (l r : T α)

noncomputable def T.get {α : Type} (d : α) (t : T α) : Nat → α := T.rec (fun _ => d) (fun v _ _ gl gr n => Bool.rec (Bool.rec (gr (Nat.pred (Nat.div n 2))) (gl (Nat.div n 2)) (Nat.beq (Nat.mod n 2) 1)) v (Nat.beq n 0)) t
noncomputable def T.setF {α : Type} (d b : α) : Nat → T α → Nat → T α := Nat.rec (fun t _ => t) (fun _ ih t n => T.rec
  (Bool.rec (Bool.rec (.node d .nil (ih .nil (Nat.pred (Nat.div n 2)))) (.node d (ih .nil (Nat.div n 2)) .nil) (Nat.beq (Nat.mod n 2) 1)) (.node b .nil .nil) (Nat.beq n 0))
  (fun v l r _ _ => Bool.rec (Bool.rec (.node v l (ih r (Nat.pred (Nat.div n 2)))) (.node v (ih l (Nat.div n 2)) r) (Nat.beq (Nat.mod n 2) 1)) (.node b l r) (Nat.beq n 0)) t)
theorem T.get_nil {α : Type} (d : α) (n : Nat) : T.get d .nil n = d := rfl
theorem T.get_node {α : Type} (d v : α) (l r : T α) (n : Nat) : T.get d (.node v l r) n = cnd (Nat.beq n 0) v (cnd (Nat.beq (Nat.mod n 2) 1) (l.get d (Nat.div n 2)) (r.get d (Nat.pred (Nat.div n 2)))) := rfl
theorem T.setF_nil {α : Type} (d b : α) (f n : Nat) : T.setF d b (f + 1) .nil n = cnd (Nat.beq n 0) (.node b .nil .nil) (cnd (Nat.beq (Nat.mod n 2) 1) (.node d (setF d b f .nil (Nat.div n 2)) .nil) (.node d .nil (setF d b f .nil (Nat.pred (Nat.div n 2))))) := rfl
theorem T.setF_node {α : Type} (d b v : α) (l r : T α) (f n : Nat) : T.setF d b (f + 1) (.node v l r) n = cnd (Nat.beq n 0) (.node b l r) (cnd (Nat.beq (Nat.mod n 2) 1) (.node v (setF d b f l (Nat.div n 2)) r) (.node v l (setF d b f r (Nat.pred (Nat.div n 2))))) := rfl
noncomputable def T.set {α : Type} (d : α) (t : T α) (n : Nat) (b : α) : T α := T.setF d b (Nat.succ n) t n

/-- a frame: its slots -/
abbrev Fr := T Value
noncomputable def Fr.get (f : Fr) (i : Nat) : Value := T.get undef f i
/-- n: how many slots there are -/
noncomputable def Fr.put (n : Nat) (f : Fr) (i : Nat) (v : Value) : Fr := cnd (Nat.blt i n) (T.set undef f i v) f
noncomputable def Fr.fill : List Value → Nat → Fr → Fr
  | [], _, t => t
  | v :: l, i, t => fill l (Nat.succ i) (T.set undef t i v)

/-- the record of a range over a function -/
structure LoopA where
  state : LoopState
  pending : Option Code
  n : Nat
  tm : Fr
  params : List Tmp
  assign : Code
  body : Code
  defers : Nat

inductive Blk where
  | dead
  | cells (c : List Value) (es : Nat)
  | ro (c : List Value)
  | map (es : List MapEntry) (clock : Nat)
  | loop (l : LoopA)
  | defd

structure Heap where
  next : Nat
  t : T Blk

noncomputable def Heap.get (h : Heap) (b : Nat) : Blk := h.t.get .dead b
noncomputable def Heap.set (h : Heap) (b : Nat) (x : Blk) : Heap := ⟨h.next, h.t.set .dead b x⟩
noncomputable def Heap.push (h : Heap) (x : Blk) : Heap := ⟨Nat.succ h.next, h.t.set .dead h.next x⟩

theorem T.get_setF {α : Type} (d b : α) : ∀ (f : Nat) (t : T α) (n m : Nat), n < f → (T.setF d b f t n).get d m = if m = n then b else t.get d m := by
  intro f
  induction f with
  | zero => intro t n m h; omega
  | succ f ih =>
    intro t n m h
    have hn : ∀ x : Nat, Nat.mod x 2 = x % 2 := fun _ => rfl
    have hd : ∀ x : Nat, Nat.div x 2 = x / 2 := fun _ => rfl
    have b1 : ∀ x y : Nat, Nat.beq x y = decide (x = y) := fun x y => by
      cases h : Nat.beq x y with
      | true => rw [Nat.eq_of_beq_eq_true h]; simp
      | false => rw [decide_eq_false (Nat.ne_of_beq_eq_false h)]
    rcases Nat.eq_zero_or_pos n with rfl | hp
    · rcases Nat.eq_zero_or_pos m with rfl | hm
      · cases t <;> simp [T.setF_nil, T.setF_node, T.get_nil, T.get_node]
      · have : ¬ m = 0 := by omega
        cases t <;> simp [T.setF_nil, T.setF_node, T.get_nil, T.get_node, b1, this]
    · have n0 : ¬ n = 0 := by omega
      by_cases o : n % 2 = 1
      · have i1 := ih .nil (n / 2) (m / 2) (by omega)
        cases t with
        | nil =>
          simp only [T.setF_nil, T.setF_node, T.get_nil, T.get_node, b1, hn, hd, n0, o, decide_false, decide_true, cnd_false, cnd_true]
          rcases Nat.eq_zero_or_pos m with rfl | hm
          · have : ¬ 0 = n := by omega
            simp [this]
          · have m0 : ¬ m = 0 := by omega
            by_cases om : m % 2 = 1
            · simp only [m0, om, decide_false, decide_true, cnd_false, cnd_true, i1]
              by_cases e : m = n
              · subst e; simp
              · have : ¬ m / 2 = n / 2 := by omega
                simp [e, this, T.get_nil]
            · have e : ¬ m = n := by intro e; subst e; exact om o
              simp [m0, om, e, T.get_nil]
        | node v l r =>
          have i2 := ih l (n / 2) (m / 2) (by omega)
          simp only [T.setF_nil, T.setF_node, T.get_nil, T.get_node, b1, hn, hd, n0, o, decide_false, decide_true, cnd_false, cnd_true]
          rcases Nat.eq_zero_or_pos m with rfl | hm
          · have : ¬ 0 = n := by omega
            simp [this]
          · have m0 : ¬ m = 0 := by omega
            by_cases om : m % 2 = 1
            · simp only [m0, om, decide_false, decide_true, cnd_false, cnd_true, i2]
              by_cases e : m = n
              · subst e; simp
              · have : ¬ m / 2 = n / 2 := by omega
                simp [e, this]
            · have e : ¬ m = n := by intro e; subst e; exact om o
              simp [m0, om, e]
      · have hq : Nat.pred (n / 2) = n / 2 - 1 := rfl
        cases t with
        | nil =>
          have i1 := ih .nil (n / 2 - 1) (m / 2 - 1) (by omega)
          simp only [T.setF_nil, T.setF_node, T.get_nil, T.get_node, b1, hn, hd, n0, o, decide_false, cnd_false, hq]
          rcases Nat.eq_zero_or_pos m with rfl | hm
          · have : ¬ 0 = n := by omega
            simp [this]
          · have m0 : ¬ m = 0 := by omega
            by_cases om : m % 2 = 1
            · have e : ¬ m = n := by intro e; subst e; exact o om
              simp [m0, om, e, T.get_nil]
            · have hq2 : Nat.pred (m / 2) = m / 2 - 1 := rfl
              simp only [m0, om, decide_false, cnd_false, hq2, i1]
              by_cases e : m = n
              · subst e; simp
              · have : ¬ m / 2 - 1 = n / 2 - 1 := by omega
                simp [e, this, T.get_nil]
        | node v l r =>
          have i2 := ih r (n / 2 - 1) (m / 2 - 1) (by omega)
          simp only [T.setF_nil, T.setF_node, T.get_nil, T.get_node, b1, hn, hd, n0, o, decide_false, cnd_false, hq]
          rcases Nat.eq_zero_or_pos m with rfl | hm
          · have : ¬ 0 = n := by omega
            simp [this]
          · have m0 : ¬ m = 0 := by omega
            by_cases om : m % 2 = 1
            · have e : ¬ m = n := by intro e; subst e; exact o om
              simp [m0, om, e]
            · have hq2 : Nat.pred (m / 2) = m / 2 - 1 := rfl
              simp only [m0, om, decide_false, cnd_false, hq2, i2]
              by_cases e : m = n
              · subst e; simp
              · have : ¬ m / 2 - 1 = n / 2 - 1 := by omega
                simp [e, this]


theorem Heap.get_set (h : Heap) (b c : Nat) (x : Blk) : (h.set b x).get c = if c = b then x else h.get c := T.get_setF _ _ _ _ _ _ (Nat.lt_succ_self b)
theorem Heap.get_push (h : Heap) (c : Nat) (x : Blk) : (h.push x).get c = if c = h.next then x else h.get c := T.get_setF _ _ _ _ _ _ (Nat.lt_succ_self _)
@[simp] theorem Heap.next_set (h : Heap) (b : Nat) (x : Blk) : (h.set b x).next = h.next := rfl
@[simp] theorem Heap.next_push (h : Heap) (x : Blk) : (h.push x).next = h.next + 1 := rfl

/-- a value of one cell, no address in it, as the evaluator has it: what a slice may bear is told as twice that, and one -/
noncomputable def encS : Value → Value
  | .slice none n c => .slice none n (2 * c + 1)
  | v => v
noncomputable def okS : Value → Bool
  | .bool _ | .int _ _ | .string _ | .pointer none | .slice none _ _ | .map none | .nilFunc | .nilIface => true
  | .func (.func _) a b => a.toList.isEmpty && b.toList.isEmpty
  | _ => false
noncomputable def enc : Value → Value
  | .agg cs => .agg ⟨cs.toList.map encS⟩
  | v => encS v
noncomputable def okC : Value → Bool
  | .agg cs => cs.toList.all okS
  | v => okS v
noncomputable def cellsL : Value → List Value
  | .agg cs => cs.toList
  | v => [v]
/-- one cell may hold it -/
noncomputable def scal : Value → Bool
  | .agg _ | .tuple _ => false
  | _ => true
/-- no address in it, and alike in both memories -/
noncomputable def flat1 : Value → Bool
  | .bool _ | .int _ _ | .string _ => true
  | _ => false
noncomputable def flat : Value → Bool
  | .agg cs => cs.toList.all flat1
  | v => flat1 v

noncomputable def opnd (tm : Fr) : Operand → Option Value
  | .tmp t => some (Fr.get tm t)
  | .const v => cnd (okC v) (some (enc v)) none
  | .func f => some (.func (.func f) #[] #[])
  | .global _ => none

noncomputable def opnds (tm : Fr) : List Operand → Option (List Value)
  | [] => some []
  | x :: l => match opnd tm x, opnds tm l with
    | some v, some vs => some (v :: vs)
    | _, _ => none

/-- what a word of the model comes to, where it only computes -/
noncomputable def absPure (P : Program) {α : Type} : Sem α → Option α
  | .pure a => some a
  | .program k => absPure P (k P)
  | .mark _ k => absPure P k
  | _ => none
theorem absPure_run {P : Program} {α : Type} {s : Sem α} {a : α} (h : absPure P s = some a) (w : World) : s.run P w = .ok a w := by
  induction s with
  | pure x => simp only [absPure, Option.some.injEq] at h; subst h; rfl
  | program k ih => exact ih P h
  | mark m k ih => exact ih h
  | _ => simp [absPure] at h

noncomputable def isAggT (P : Program) (t : TypeId) : Option Bool := match P.underlying t with
  | some (.struct _) | some (.array _ _) => some true
  | some _ => some false
  | none => none
noncomputable def sizeT (P : Program) (t : TypeId) : Option Nat := match P.info? t with
  | some i => some i.size
  | none => none
noncomputable def zeroT (P : Program) (t : TypeId) : Option Value := match P.info? t with
  | some i => match i.zero with
    | some v => cnd (okC v) (some v) none
    | none => none
  | none => none

noncomputable def Heap.rd (h : Heap) (b o n : Nat) : Option (List Value) := match h.get b with
  | .cells c _ | .ro c => cnd (Nat.ble (o + n) c.length) (some ((c.drop o).take n)) none
  | _ => none
noncomputable def Heap.rd1 (h : Heap) (b o : Nat) : Option Value := match h.get b with
  | .cells c _ | .ro c => c[o]?
  | _ => none
noncomputable def splice : List Value → Nat → List Value → List Value
  | c, _, [] => c
  | c, o, x :: xs => splice (c.set o x) (Nat.succ o) xs
noncomputable def Heap.wr (h : Heap) (b o : Nat) (xs : List Value) : Option Heap := match h.get b with
  | .cells c es => cnd (Nat.ble (o + xs.length) c.length && xs.all scal) (some (h.set b (.cells (splice c o xs) es))) none
  | _ => none

noncomputable def ptr (b o : Nat) : Value := .pointer (some ⟨b, o, none⟩)

/-- a struct's or an array's part -/
noncomputable def partV (P : Program) (t : TypeId) (cs : List Value) (off : Nat) : Option Value := match isAggT P t with
  | some true => match sizeT P t with
    | some n => cnd (Nat.ble (off + n) cs.length) (some (.agg ⟨(cs.drop off).take n⟩)) none
    | none => none
  | some false => cs[off]?
  | none => none

noncomputable def zeroRow (z : List Value) (n : Nat) : List Value := (List.range (n * z.length)).map fun i => z.getD (i % z.length) undef

/-- parts laid into a row: each behind a place told -/
noncomputable def fillL (place : Nat → Option (Nat × Nat)) (cells : List Value) : List (Nat × Value) → Option (List Value)
  | [] => some cells
  | (i, v) :: rest => match place i with
    | none => none
    | some (off, size) => cnd (Nat.beq (cellsL v).length size && Nat.ble (off + size) cells.length) (fillL place (splice cells off (cellsL v)) rest) none
noncomputable def partsL (tm : Fr) : List (Nat × Operand) → Option (List (Nat × Value))
  | [] => some []
  | (i, x) :: l => match opnd tm x, partsL tm l with
    | some v, some vs => some ((i, v) :: vs)
    | _, _ => none
noncomputable def placesL (P : Program) : List Field → Option (List (Nat × Nat))
  | [] => some []
  | f :: l => match sizeT P f.type, placesL P l with
    | some n, some r => some ((f.offset, n) :: r)
    | _, _ => none

noncomputable def natOf (v : Value) : Option Nat := match v with
  | .int _ i => if i < 0 then none else some i.toNat
  | _ => none
end Go.Proofs.YtddgcakiceodgaaGreat.EV
