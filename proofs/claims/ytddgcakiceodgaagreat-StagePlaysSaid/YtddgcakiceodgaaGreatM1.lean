/- EV, part 1: a plain evaluator of the model's code over an own, relative memory (blocks by number, from nought on; what a slice may bear is known at least). Definitions alone. EV, part 2: the evaluator: operations, regions, code, calls. Definitions alone. -/
import Derived.RangeFuncLeaves
import Derived.OrdersIn
import Derived.Below
namespace Go.Proofs.YtddgcakiceodgaaGreat.EV
set_option linter.unusedVariables false
set_option linter.unusedSimpArgs false
open Go

structure Loc where
 blk : Nat
 sh : Nat
 size : Nat
 es : Nat

noncomputable def cnd {α : Type} (b : Bool) (x y : α) : α := Bool.rec y x b
@[simp] theorem cnd_true {α : Type} (x y : α) : cnd true x y = x := rfl
@[simp] theorem cnd_false {α : Type} (x y : α) : cnd false x y = y := rfl
@[simp] theorem cnd_self {α : Type} (b : Bool) (x : α) : cnd b x x = x := by cases b <;> rfl

inductive T (α : Type) where
 | nil
 | node (v : α) (l r : T α)

noncomputable def T.get {α : Type} (d : α) (t : T α) : Nat → α := T.rec (fun _ => d) (fun v _ _ gl gr n => Bool.rec (Bool.rec (gr (Nat.pred (Nat.div n 2))) (gl (Nat.div n 2)) (Nat.beq (Nat.mod n 2) 1)) v (Nat.beq n 0)) t
noncomputable def T.setF {α : Type} (d b : α) : Nat → T α → Nat → T α := Nat.rec (fun t _ => t) (fun _ ih t n => T.rec
 (Bool.rec (Bool.rec (.node d .nil (ih .nil (Nat.pred (Nat.div n 2)))) (.node d (ih .nil (Nat.div n 2)) .nil) (Nat.beq (Nat.mod n 2) 1)) (.node b .nil .nil) (Nat.beq n 0))
 (fun v l r _ _ => Bool.rec (Bool.rec (.node v l (ih r (Nat.pred (Nat.div n 2)))) (.node v (ih l (Nat.div n 2)) r) (Nat.beq (Nat.mod n 2) 1)) (.node b l r) (Nat.beq n 0)) t)
theorem T.get_nil {α : Type} (d : α) (n : Nat) : T.get d .nil n = d := rfl
theorem T.get_node {α : Type} (d v : α) (l r : T α) (n : Nat) : T.get d (.node v l r) n = cnd (Nat.beq n 0) v (cnd (Nat.beq (Nat.mod n 2) 1) (l.get d (Nat.div n 2)) (r.get d (Nat.pred (Nat.div n 2)))) := rfl
theorem T.setF_nil {α : Type} (d b : α) (f n : Nat) : T.setF d b (f + 1) .nil n = cnd (Nat.beq n 0) (.node b .nil .nil) (cnd (Nat.beq (Nat.mod n 2) 1) (.node d (setF d b f .nil (Nat.div n 2)) .nil) (.node d .nil (setF d b f .nil (Nat.pred (Nat.div n 2))))) := rfl
theorem T.setF_node {α : Type} (d b v : α) (l r : T α) (f n : Nat) : T.setF d b (f + 1) (.node v l r) n = cnd (Nat.beq n 0) (.node b l r) (cnd (Nat.beq (Nat.mod n 2) 1) (.node v (setF d b f l (Nat.div n 2)) r) (.node v l (setF d b f r (Nat.pred (Nat.div n 2))))) := rfl
noncomputable def T.set {α : Type} (d : α) (t : T α) (n : Nat) (b : α) : T α := T.setF d b (Nat.succ n) t n

abbrev Fr := T Value
noncomputable def Fr.get (f : Fr) (i : Nat) : Value := T.get undef f i
noncomputable def Fr.put (n : Nat) (f : Fr) (i : Nat) (v : Value) : Fr := cnd (Nat.blt i n) (T.set undef f i v) f
noncomputable def Fr.fill : List Value → Nat → Fr → Fr
 | [], _, t => t
 | v :: l, i, t => fill l (Nat.succ i) (T.set undef t i v)

structure LoopA where
 state : LoopState
 pending : Option Code
 n : Nat
 tm : Fr
 params : List Tmp
 assign : Code
 body : Code
 defers : Nat

inductive Blk where
 | dead
 | cells (c : List Value) (es : Nat)
 | ro (c : List Value)
 | map (es : List MapEntry) (clock : Nat)
 | loop (l : LoopA)
 | defd

structure Heap where
 next : Nat
 t : T Blk

noncomputable def Heap.get (h : Heap) (b : Nat) : Blk := h.t.get .dead b
noncomputable def Heap.set (h : Heap) (b : Nat) (x : Blk) : Heap := ⟨h.next, h.t.set .dead b x⟩
noncomputable def Heap.push (h : Heap) (x : Blk) : Heap := ⟨Nat.succ h.next, h.t.set .dead h.next x⟩

theorem T.get_setF {α : Type} (d b : α) : ∀ (f : Nat) (t : T α) (n m : Nat), n < f → (T.setF d b f t n).get d m = if m = n then b else t.get d m := by
 intro f
 induction f with
 | zero => intro t n m h; omega
 | succ f ih =>
  intro t n m h
  have hn : ∀ x : Nat, Nat.mod x 2 = x % 2 := fun _ => rfl
  have hd : ∀ x : Nat, Nat.div x 2 = x / 2 := fun _ => rfl
  have b1 : ∀ x y : Nat, Nat.beq x y = decide (x = y) := fun x y => by
   cases h : Nat.beq x y with
   | true => rw [Nat.eq_of_beq_eq_true h]; simp
   | false => rw [decide_eq_false (Nat.ne_of_beq_eq_false h)]
  rcases Nat.eq_zero_or_pos n with rfl | hp
  ·rcases Nat.eq_zero_or_pos m with rfl | hm
   ·cases t <;> simp [T.setF_nil, T.setF_node, T.get_nil, T.get_node]
   ·have : ¬ m = 0 := by omega
    cases t <;> simp [T.setF_nil, T.setF_node, T.get_nil, T.get_node, b1, this]
  ·have n0 : ¬ n = 0 := by omega
   by_cases o : n % 2 = 1
   ·have i1 := ih .nil (n / 2) (m / 2) (by omega)
    cases t with
    | nil =>
     simp only [T.setF_nil, T.setF_node, T.get_nil, T.get_node, b1, hn, hd, n0, o, decide_false, decide_true, cnd_false, cnd_true]
     rcases Nat.eq_zero_or_pos m with rfl | hm
     ·have : ¬ 0 = n := by omega
      simp [this]
     ·have m0 : ¬ m = 0 := by omega
      by_cases om : m % 2 = 1
      ·simp only [m0, om, decide_false, decide_true, cnd_false, cnd_true, i1]
       by_cases e : m = n
       ·subst e; simp
       ·have : ¬ m / 2 = n / 2 := by omega
        simp [e, this, T.get_nil]
      ·have e : ¬ m = n := by intro e; subst e; exact om o
       simp [m0, om, e, T.get_nil]
    | node v l r =>
     have i2 := ih l (n / 2) (m / 2) (by omega)
     simp only [T.setF_nil, T.setF_node, T.get_nil, T.get_node, b1, hn, hd, n0, o, decide_false, decide_true, cnd_false, cnd_true]
     rcases Nat.eq_zero_or_pos m with rfl | hm
     ·have : ¬ 0 = n := by omega
      simp [this]
     ·have m0 : ¬ m = 0 := by omega
      by_cases om : m % 2 = 1
      ·simp only [m0, om, decide_false, decide_true, cnd_false, cnd_true, i2]
       by_cases e : m = n
       ·subst e; simp
       ·have : ¬ m / 2 = n / 2 := by omega
        simp [e, this]
      ·have e : ¬ m = n := by intro e; subst e; exact om o
       simp [m0, om, e]
   ·have hq : Nat.pred (n / 2) = n / 2 - 1 := rfl
    cases t with
    | nil =>
     have i1 := ih .nil (n / 2 - 1) (m / 2 - 1) (by omega)
     simp only [T.setF_nil, T.setF_node, T.get_nil, T.get_node, b1, hn, hd, n0, o, decide_false, cnd_false, hq]
     rcases Nat.eq_zero_or_pos m with rfl | hm
     ·have : ¬ 0 = n := by omega
      simp [this]
     ·have m0 : ¬ m = 0 := by omega
      by_cases om : m % 2 = 1
      ·have e : ¬ m = n := by intro e; subst e; exact o om
       simp [m0, om, e, T.get_nil]
      ·have hq2 : Nat.pred (m / 2) = m / 2 - 1 := rfl
       simp only [m0, om, decide_false, cnd_false, hq2, i1]
       by_cases e : m = n
       ·subst e; simp
       ·have : ¬ m / 2 - 1 = n / 2 - 1 := by omega
        simp [e, this, T.get_nil]
    | node v l r =>
     have i2 := ih r (n / 2 - 1) (m / 2 - 1) (by omega)
     simp only [T.setF_nil, T.setF_node, T.get_nil, T.get_node, b1, hn, hd, n0, o, decide_false, cnd_false, hq]
     rcases Nat.eq_zero_or_pos m with rfl | hm
     ·have : ¬ 0 = n := by omega
      simp [this]
     ·have m0 : ¬ m = 0 := by omega
      by_cases om : m % 2 = 1
      ·have e : ¬ m = n := by intro e; subst e; exact o om
       simp [m0, om, e]
      ·have hq2 : Nat.pred (m / 2) = m / 2 - 1 := rfl
       simp only [m0, om, decide_false, cnd_false, hq2, i2]
       by_cases e : m = n
       ·subst e; simp
       ·have : ¬ m / 2 - 1 = n / 2 - 1 := by omega
        simp [e, this]


theorem Heap.get_set (h : Heap) (b c : Nat) (x : Blk) : (h.set b x).get c = if c = b then x else h.get c := T.get_setF _ _ _ _ _ _ (Nat.lt_succ_self b)
theorem Heap.get_push (h : Heap) (c : Nat) (x : Blk) : (h.push x).get c = if c = h.next then x else h.get c := T.get_setF _ _ _ _ _ _ (Nat.lt_succ_self _)
@[simp] theorem Heap.next_set (h : Heap) (b : Nat) (x : Blk) : (h.set b x).next = h.next := rfl
@[simp] theorem Heap.next_push (h : Heap) (x : Blk) : (h.push x).next = h.next + 1 := rfl

noncomputable def encS : Value → Value
 | .slice none n c => .slice none n (2 * c + 1)
 | v => v
noncomputable def okS : Value → Bool
 | .bool _ | .int _ _ | .string _ | .pointer none | .slice none _ _ | .map none | .nilFunc | .nilIface => true
 | .func (.func _) a b => a.toList.isEmpty && b.toList.isEmpty
 | _ => false
noncomputable def enc : Value → Value
 | .agg cs => .agg ⟨cs.toList.map encS⟩
 | v => encS v
noncomputable def okC : Value → Bool
 | .agg cs => cs.toList.all okS
 | v => okS v
noncomputable def cellsL : Value → List Value
 | .agg cs => cs.toList
 | v => [v]
noncomputable def scal : Value → Bool
 | .agg _ | .tuple _ => false
 | _ => true
noncomputable def flat1 : Value → Bool
 | .bool _ | .int _ _ | .string _ => true
 | _ => false
noncomputable def flat : Value → Bool
 | .agg cs => cs.toList.all flat1
 | v => flat1 v

noncomputable def opnd (tm : Fr) : Operand → Option Value
 | .tmp t => some (Fr.get tm t)
 | .const v => cnd (okC v) (some (enc v)) none
 | .func f => some (.func (.func f) #[] #[])
 | .global _ => none

noncomputable def opnds (tm : Fr) : List Operand → Option (List Value)
 | [] => some []
 | x :: l => match opnd tm x, opnds tm l with
  | some v, some vs => some (v :: vs)
  | _, _ => none

noncomputable def absPure (P : Program) {α : Type} : Sem α → Option α
 | .pure a => some a
 | .program k => absPure P (k P)
 | .mark _ k => absPure P k
 | _ => none
theorem absPure_run {P : Program} {α : Type} {s : Sem α} {a : α} (h : absPure P s = some a) (w : World) : s.run P w = .ok a w := by
 induction s with
 | pure x => simp only [absPure, Option.some.injEq] at h; subst h; rfl
 | program k ih => exact ih P h
 | mark m k ih => exact ih h
 | _ => simp [absPure] at h

noncomputable def isAggT (P : Program) (t : TypeId) : Option Bool := match P.underlying t with
 | some (.struct _) | some (.array _ _) => some true
 | some _ => some false
 | none => none
noncomputable def sizeT (P : Program) (t : TypeId) : Option Nat := match P.info? t with
 | some i => some i.size
 | none => none
noncomputable def zeroT (P : Program) (t : TypeId) : Option Value := match P.info? t with
 | some i => match i.zero with
  | some v => cnd (okC v) (some v) none
  | none => none
 | none => none

noncomputable def Heap.rd (h : Heap) (b o n : Nat) : Option (List Value) := match h.get b with
 | .cells c _ | .ro c => cnd (Nat.ble (o + n) c.length) (some ((c.drop o).take n)) none
 | _ => none
noncomputable def Heap.rd1 (h : Heap) (b o : Nat) : Option Value := match h.get b with
 | .cells c _ | .ro c => c[o]?
 | _ => none
noncomputable def splice : List Value → Nat → List Value → List Value
 | c, _, [] => c
 | c, o, x :: xs => splice (c.set o x) (Nat.succ o) xs
noncomputable def Heap.wr (h : Heap) (b o : Nat) (xs : List Value) : Option Heap := match h.get b with
 | .cells c es => cnd (Nat.ble (o + xs.length) c.length && xs.all scal) (some (h.set b (.cells (splice c o xs) es))) none
 | _ => none

noncomputable def ptr (b o : Nat) : Value := .pointer (some ⟨b, o, none⟩)

noncomputable def partV (P : Program) (t : TypeId) (cs : List Value) (off : Nat) : Option Value := match isAggT P t with
 | some true => match sizeT P t with
  | some n => cnd (Nat.ble (off + n) cs.length) (some (.agg ⟨(cs.drop off).take n⟩)) none
  | none => none
 | some false => cs[off]?
 | none => none

noncomputable def zeroRow (z : List Value) (n : Nat) : List Value := (List.range (n * z.length)).map fun i => z.getD (i % z.length) undef

noncomputable def fillL (place : Nat → Option (Nat × Nat)) (cells : List Value) : List (Nat × Value) → Option (List Value)
 | [] => some cells
 | (i, v) :: rest => match place i with
  | none => none
  | some (off, size) => cnd (Nat.beq (cellsL v).length size && Nat.ble (off + size) cells.length) (fillL place (splice cells off (cellsL v)) rest) none
noncomputable def partsL (tm : Fr) : List (Nat × Operand) → Option (List (Nat × Value))
 | [] => some []
 | (i, x) :: l => match opnd tm x, partsL tm l with
  | some v, some vs => some ((i, v) :: vs)
  | _, _ => none
noncomputable def placesL (P : Program) : List Field → Option (List (Nat × Nat))
 | [] => some []
 | f :: l => match sizeT P f.type, placesL P l with
  | some n, some r => some ((f.offset, n) :: r)
  | _, _ => none

noncomputable def natOf (v : Value) : Option Nat := match v with
 | .int _ i => if i < 0 then none else some i.toNat
 | _ => none

noncomputable def cutEnds (len c : Nat) (lo hi mx : Option Value) : Option (Nat × Nat × Nat × Bool) :=
 match (match mx with | none => some (c, false) | some v => match natOf v with | some m => cnd (Nat.ble m c) (some (m, true)) none | none => none) with
 | none => none
 | some (m, ex) =>
  match (match hi with | none => cnd ex none (some len) | some v => match natOf v with | some h => cnd (Nat.ble h m) (some h) none | none => none) with
  | none => none
  | some h =>
   match (match lo with | none => some 0 | some v => match natOf v with | some l => cnd (Nat.ble l h) (some l) none | none => none) with
   | none => none
   | some l => some (l, h, m, ex)

noncomputable def optOpnd (tm : Fr) : Option Operand → Option (Option Value)
 | none => some none
 | some x => match opnd tm x with
  | some v => some (some v)
  | none => none

noncomputable def bytesOfL : List Value → Option (List UInt8)
 | [] => some []
 | .int .u8 n :: l => match bytesOfL l with
  | some r => some (UInt8.ofNat n.toNat :: r)
  | none => none
 | _ => none

noncomputable def findE (k : IntKind) (n : Int) : List MapEntry → Nat → Option (Option (Nat × Value))
 | [], _ => some none
 | e :: es, i => match e.key with
  | .int k' m => cnd (decide (k = k')) (cnd (decide (n = m)) (some (some (i, e.val))) (findE k n es (Nat.succ i))) none
  | _ => none

noncomputable def eqA (P : Program) (t : TypeId) (a b : Value) : Option Bool := match P.underlying t, a, b with
 | some (.pointer _), .pointer none, .pointer q => some q.isNone
 | some (.pointer _), .pointer (some _), .pointer none => some false
 | some (.pointer e), .pointer (some ⟨p, o, none⟩), .pointer (some ⟨q, r, none⟩) => match sizeT P e with
  | some n => cnd (Nat.beq p q && !Nat.beq n 0) (some (Nat.beq o r)) none
  | none => none
 | some (.slice _), .slice none _ _, .slice q _ _ => some q.isNone
 | some (.slice _), .slice (some _) _ _, .slice none _ _ => some false
 | some (.map ..), .map none, .map q => some q.isNone
 | some (.map ..), .map (some _), .map none => some false
 | some (.func ..), .nilFunc, .nilFunc => some true
 | some (.func ..), .nilFunc, .func _ _ _ => some false
 | some (.func ..), .func _ _ _, .nilFunc => some false
 | some (.interface _), .nilIface, .iface _ _ => some false
 | some (.interface _), .iface _ _, .nilIface => some false
 | _, _, _ => none
/-! whole numbers, without the long way -/
noncomputable def fullK : IntKind → Int
 | .i8 | .u8 => 256
 | .i16 | .u16 => 65536
 | .i32 | .u32 => 4294967296
 | .i64 | .u64 => 18446744073709551616
noncomputable def halfK : IntKind → Int
 | .i8 | .u8 => 128
 | .i16 | .u16 => 32768
 | .i32 | .u32 => 2147483648
 | .i64 | .u64 => 9223372036854775808
noncomputable def sgnK : IntKind → Bool
 | .i8 | .i16 | .i32 | .i64 => true
 | _ => false
noncomputable def bitsK : IntKind → Nat
 | .i8 | .u8 => 8
 | .i16 | .u16 => 16
 | .i32 | .u32 => 32
 | .i64 | .u64 => 64
noncomputable def wrapF (k : IntKind) (n : Int) : Int := (fun m => cnd (sgnK k && decide (halfK k ≤ m)) (Int.sub m (fullK k)) m) (Int.emod n (fullK k))
noncomputable def natK (k : IntKind) (n : Int) : Nat := Int.toNat (Int.emod n (fullK k))
noncomputable def intF (op : BinOp) (k : IntKind) (x y : Int) : Option Value := match op with
 | .add => some (.int k (wrapF k (Int.add x y)))
 | .sub => some (.int k (wrapF k (Int.sub x y)))
 | .mul => some (.int k (wrapF k (Int.mul x y)))
 | .and => some (.int k (wrapF k (Int.ofNat (Nat.land (natK k x) (natK k y)))))
 | .or => some (.int k (wrapF k (Int.ofNat (Nat.lor (natK k x) (natK k y)))))
 | .xor => some (.int k (wrapF k (Int.ofNat (Nat.xor (natK k x) (natK k y)))))
 | .eql => some (.bool (decide (x = y)))
 | .neq => some (.bool (!decide (x = y)))
 | .lss => some (.bool (decide (x < y)))
 | .leq => some (.bool (decide (x ≤ y)))
 | .gtr => some (.bool (decide (y < x)))
 | .geq => some (.bool (decide (y ≤ x)))
 | _ => none
noncomputable def shN (k : IntKind) (y : Int) : Nat := (fun n => cnd (Nat.ble n (bitsK k)) n (bitsK k)) (Int.toNat y)
noncomputable def shrF (k : IntKind) (n : Nat) : Int → Option Value
 | .ofNat a => some (.int k (.ofNat (Nat.shiftRight a n)))
 | _ => none
noncomputable def shF (op : BinOp) (k : IntKind) (x y : Int) : Option Value := match op with
 | .shl => cnd (decide (0 ≤ y)) (some (.int k (wrapF k (Int.mul x (Int.ofNat (Nat.pow 2 (shN k y))))))) none
 | .shr => cnd (decide (0 ≤ y)) (shrF k (shN k y) x) none
 | _ => none
noncomputable def isSh : BinOp → Bool
 | .shl | .shr => true
 | _ => false
noncomputable def fastI (op : BinOp) (j k : IntKind) (x y : Int) : Option Value := cnd (isSh op) (shF op j x y) (cnd (decide (j = k)) (intF op j x y) none)
noncomputable def fastBin (op : BinOp) (a b : Value) : Option Value := match a with
 | .int j x => match b with
  | .int k y => fastI op j k x y
  | _ => none
 | _ => none
noncomputable def fastUn (op : UnOp) (a : Value) : Option Value := match a with
 | .int k n => match op with
  | .neg => intF .sub k 0 n
  | .xor => intF .xor k (cnd (sgnK k) (-1) (Int.sub (fullK k) 1)) n
  | _ => none
 | .bool b => match op with
  | .not => some (.bool (!b))
  | _ => none
 | _ => none
noncomputable def orE {α : Type} (x y : Option α) : Option α := match x with
 | some a => some a
 | none => y
noncomputable def evBin (P : Program) (op : BinOp) (t : TypeId) (x y : Operand) (a b : Value) : Option Value :=
 orE (fastBin op a b) (cnd (flat a && flat b) (match absPure P (do eqGuard op t x y a b; binOp op t a b) with
  | some v => cnd (flat1 v) (some v) none
  | none => none)
 (match op, eqA P t a b with
  | .eql, some r => some (.bool r)
  | .neq, some r => some (.bool (!r))
  | _, _ => none))

noncomputable def ob {α β : Type} (x : Option α) (f : α → Option β) : Option β := Option.rec none f x
theorem ob_inv {α β : Type} {x : Option α} {f : α → Option β} {r : β} (h : ob x f = some r) : ∃ v, x = some v ∧ f v = some r := by
 cases x with
 | none => cases h
 | some v => exact ⟨v, rfl, h⟩
noncomputable def gd {β : Type} (b : Bool) (x : Option β) : Option β := Bool.rec none x b
theorem gd_inv {β : Type} {b : Bool} {x : Option β} {r : β} (h : gd b x = some r) : b = true ∧ x = some r := by
 cases b with
 | false => cases h
 | true => exact ⟨rfl, h⟩

noncomputable def asPtr : Value → Option (Nat × Nat)
 | .pointer (some ⟨b, o, none⟩) => some (b, o)
 | _ => none
noncomputable def asIntV : Value → Option (IntKind × Int)
 | .int k n => some (k, n)
 | _ => none
noncomputable def asBoolV : Value → Option Bool
 | .bool b => some b
 | _ => none
noncomputable def asAggV : Value → Option (List Value)
 | .agg cs => some cs.toList
 | _ => none
noncomputable def asTupV : Value → Option (List Value)
 | .tuple cs => some cs.toList
 | _ => none
noncomputable def asMapV : Value → Option Nat
 | .map (some r) => some r
 | _ => none
noncomputable def sliceE : TypeDesc → Option TypeId
 | .slice e => some e
 | _ => none
noncomputable def structE : TypeDesc → Option (List Field)
 | .struct fs => some fs.toList
 | _ => none
noncomputable def mapE : TypeDesc → Option (TypeId × TypeId)
 | .map k e => some (k, e)
 | _ => none
noncomputable def isIntD : TypeDesc → Bool
 | .int _ => true
 | _ => false
noncomputable def isU8D : TypeDesc → Bool
 | .int .u8 => true
 | _ => false
noncomputable def isStrD : TypeDesc → Bool
 | .string => true
 | _ => false
noncomputable def isIfaceD : TypeDesc → Bool
 | .interface _ => true
 | _ => false
noncomputable def mapB : Blk → Option (List MapEntry × Nat)
 | .map es k => some (es, k)
 | _ => none

abbrev VH := Option (Value × Heap)
noncomputable def evMove (tm : Fr) (h : Heap) (x : Operand) : VH := ob (opnd tm x) fun v => some (v, h)
noncomputable def evPick (tm : Fr) (h : Heap) (c a b : Operand) : VH := ob (opnd tm c) fun p => ob (asBoolV p) fun p => ob (opnd tm a) fun v => ob (opnd tm b) fun w => some (cnd p v w, h)
noncomputable def evAlloc (P : Program) (h : Heap) (e : TypeId) : VH := ob (zeroT P e) fun z => some (ptr h.next 0, h.push (.cells (cellsL (enc z)) 0))
noncomputable def evBox (tm : Fr) (h : Heap) (x : Operand) : VH := ob (opnd tm x) fun v => some (ptr h.next 0, h.push (.cells (cellsL v) 0))
noncomputable def evBuildS (P : Program) (h : Heap) (z : Value) (ps : List (Nat × Value)) (fs : List Field) : VH := ob (placesL P fs) fun pl => ob (fillL (fun i => pl[i]?) (cellsL (enc z)) ps) fun c => some (.agg ⟨c⟩, h)
noncomputable def evBuildA (P : Program) (h : Heap) (z : Value) (ps : List (Nat × Value)) (e : TypeId) : VH := ob (sizeT P e) fun n => ob (fillL (fun i => some (i * n, n)) (cellsL (enc z)) ps) fun c => some (.agg ⟨c⟩, h)
noncomputable def evBuildD (P : Program) (h : Heap) (z : Value) (ps : List (Nat × Value)) : TypeDesc → VH
 | .struct fs => evBuildS P h z ps fs.toList
 | .array _ e => evBuildA P h z ps e
 | _ => none
noncomputable def evBuild (P : Program) (tm : Fr) (h : Heap) (t : TypeId) (parts : List (Nat × Operand)) : VH := ob (zeroT P t) fun z => ob (partsL tm parts) fun ps => ob (P.underlying t) fun d => evBuildD P h z ps d
noncomputable def evBuildSlice (P : Program) (tm : Fr) (h : Heap) (t : TypeId) (len : Nat) (parts : List (Nat × Operand)) : VH :=
 ob (P.underlying t) fun d => ob (sliceE d) fun e => ob (partsL tm parts) fun ps => ob (sizeT P e) fun n => ob (zeroT P e) fun z => gd (Nat.ble (len * n) 16777216) (gd (Nat.beq (cellsL z).length n) (gd (Nat.ble 1 n)
  (ob (fillL (fun i => some (i * n, n)) (zeroRow (cellsL (enc z)) len) ps) fun c => some (.slice (some ⟨h.next, 0, none⟩) len (2 * len + 1), h.push (.cells c n)))))
noncomputable def ldV (P : Program) (h : Heap) (t : TypeId) (b o : Nat) : Option Value := ob (isAggT P t) fun ag => cnd ag (ob (sizeT P t) fun n => ob (h.rd b o n) fun c => some (.agg ⟨c⟩)) (h.rd1 b o)
noncomputable def evLoad (P : Program) (tm : Fr) (h : Heap) (t : TypeId) (a : Operand) : VH := ob (opnd tm a) fun u => ob (asPtr u) fun p => ob (ldV P h t p.1 p.2) fun v => some (v, h)
noncomputable def evStore (P : Program) (tm : Fr) (h : Heap) (t : TypeId) (a x : Operand) : VH := ob (opnd tm a) fun u => ob (asPtr u) fun p => ob (opnd tm x) fun v => ob (sizeT P t) fun n => gd (Nat.beq (cellsL v).length n) (ob (h.wr p.1 p.2 (cellsL v)) fun h' => some (undef, h'))
noncomputable def notNil : Value → Bool
 | .pointer (some _) | .func (.func _) _ _ | .func (.yield _) _ _ => true
 | _ => false
noncomputable def evNilCheck (tm : Fr) (h : Heap) (x : Operand) : VH := ob (opnd tm x) fun v => gd (notNil v) (some (v, h))
noncomputable def evBinOp (P : Program) (tm : Fr) (h : Heap) (op : BinOp) (t : TypeId) (x y : Operand) : VH := ob (opnd tm x) fun a => ob (opnd tm y) fun b => ob (evBin P op t x y a b) fun v => some (v, h)
noncomputable def evUnOp (P : Program) (tm : Fr) (h : Heap) (op : UnOp) (x : Operand) : VH := ob (opnd tm x) fun a => gd (flat1 a) (ob (orE (fastUn op a) (absPure P (Op.unary op a))) fun v => gd (flat1 v) (some (v, h)))
noncomputable def fastConv (P : Program) (s d : TypeId) (v : Value) : Option Value := ob (P.underlying s) fun _ => ob (P.underlying d) fun dd => match dd with
 | .int k => (match v with
  | .int _ n => some (.int k (wrapF k n))
  | _ => none)
 | _ => none
noncomputable def evConvInt (P : Program) (h : Heap) (s d : TypeId) (v : Value) : VH := ob (orE (fastConv P s d v) (absPure P (convert s d v))) fun u => gd (flat1 u) (some (u, h))
noncomputable def evConvStr (P : Program) (h : Heap) (s d : TypeId) (str : ByteArray) : VH := ob (P.underlying s) fun sd => ob (P.underlying d) fun dd => gd (isStrD sd) (cnd (isStrD dd) (some (.string str, h))
 (ob (sliceE dd) fun e => ob (P.underlying e) fun ed => gd (isU8D ed) (some (.slice (some ⟨h.next, 0, none⟩) str.data.toList.length (2 * str.data.toList.length), h.push (.cells (str.data.toList.map fun b => .int .u8 b.toNat) 1)))))
noncomputable def strOfSlice (h : Heap) (n : Nat) : Option Addr → Option Value
 | none => some (.string ⟨⟨[]⟩⟩)
 | some ⟨b, o, none⟩ => ob (h.rd b o n) fun c => ob (bytesOfL c) fun l => some (.string ⟨⟨l⟩⟩)
 | _ => none
noncomputable def aliveB (h : Heap) (a : Option Addr) : Bool := match a with
 | some ⟨b, _, none⟩ => match h.get b with
  | .cells _ _ => true
  | _ => false
 | _ => false
noncomputable def evConvSl (P : Program) (h : Heap) (s d : TypeId) (a : Option Addr) (n c2 : Nat) : VH := ob (P.underlying s) fun sd => ob (sliceE sd) fun e => ob (P.underlying d) fun dd => cnd (isStrD dd)
 (ob (P.underlying e) fun ed => gd (isU8D ed) (ob (strOfSlice h n a) fun v => some (v, h)))
 (ob (sliceE dd) fun e' => ob (P.underlying e') fun ed => gd (isU8D ed && (Nat.beq s d && aliveB h a)) (some (.slice a n c2, h)))
noncomputable def evConvert (P : Program) (tm : Fr) (h : Heap) (s d : TypeId) (x : Operand) : VH := ob (opnd tm x) fun v => match v with
 | .int k n => evConvInt P h s d (.int k n)
 | .string str => evConvStr P h s d str
 | .slice a n c2 => evConvSl P h s d a n c2
 | _ => none
noncomputable def evMakeFunc (tm : Fr) (h : Heap) (fn : Fn) (a c : List Operand) : VH := match fn with
 | .func f => ob (opnds tm a) fun x => ob (opnds tm c) fun y => some (.func (.func f) ⟨x⟩ ⟨y⟩, h)
 | _ => none
noncomputable def evMakeMap (h : Heap) (r : Option Operand) : VH := match r with
 | none => some (.map (some h.next), h.push (.map [] 0))
 | some _ => none
noncomputable def evMakeSlice (P : Program) (tm : Fr) (h : Heap) (t : TypeId) (l c : Operand) : VH :=
 ob (P.underlying t) fun d => ob (sliceE d) fun e => ob (opnd tm l) fun l => ob (asIntV l) fun l => ob (opnd tm c) fun c => ob (asIntV c) fun c => ob (P.info? e) fun i => ob (zeroT P e) fun z =>
  gd (decide (0 ≤ l.2)) (gd (decide (l.2 ≤ c.2)) (gd (Nat.ble (c.2.toNat * i.bytes) 1099511627776) (gd (Nat.ble c.2.toNat 1099511627776) (gd (Nat.beq (cellsL z).length i.size) (gd (Nat.ble 1 i.size)
     (some (.slice (some ⟨h.next, 0, none⟩) l.2.toNat (2 * c.2.toNat + 1), h.push (.cells (zeroRow (cellsL (enc z)) c.2.toNat) i.size))))))))
noncomputable def cellsEs : Blk → Option Nat
 | .cells _ es => some es
 | _ => none
noncomputable def evCutStr (h : Heap) (s : ByteArray) (lo hi : Option Value) : VH := ob (cutEnds s.data.toList.length s.data.toList.length lo hi none) fun q => some (.string ⟨⟨(s.data.toList.drop q.1).take (q.2.1 - q.1)⟩⟩, h)
noncomputable def evCutSl (h : Heap) (b o c2 sz l r m : Nat) (ex : Bool) : VH := cnd (ex || Nat.beq (c2 % 2) 1)
 (some (.slice (some ⟨b, cnd (Nat.beq m l) o (o + l * sz), none⟩) (r - l) (2 * (m - l) + 1), h))
 (ob (cellsEs (h.get b)) fun es => gd (Nat.beq es sz) (some (.slice (some ⟨b, o + l * sz, none⟩) (r - l) (2 * (m - l)), h)))
noncomputable def evCutSlice (P : Program) (h : Heap) (a : Option Addr) (n c2 : Nat) (lo hi mx : Option Value) (e : TypeId) : VH := ob (cutEnds n (c2 / 2) lo hi mx) fun q => ob (sizeT P e) fun sz => match a with
 | none => some (.slice none (q.2.1 - q.1) (2 * (q.2.2.1 - q.1) + 1), h)
 | some ⟨b, o, none⟩ => evCutSl h b o c2 sz q.1 q.2.1 q.2.2.1 q.2.2.2
 | _ => none
noncomputable def evCutArr (P : Program) (h : Heap) (b o n : Nat) (e : TypeId) (lo hi mx : Option Value) : VH := ob (cutEnds n n lo hi mx) fun q => ob (sizeT P e) fun sz => some (.slice (some ⟨b, cnd (Nat.beq q.2.2.1 q.1) o (o + q.1 * sz), none⟩) (q.2.1 - q.1) (2 * (q.2.2.1 - q.1) + 1), h)
noncomputable def arrayE : TypeDesc → Option (Nat × TypeId)
 | .array n e => some (n, e)
 | _ => none
noncomputable def ptrE : TypeDesc → Option TypeId
 | .pointer e => some e
 | _ => none
noncomputable def evCutPtr (P : Program) (h : Heap) (b o : Nat) (lo hi mx : Option Value) (d : TypeDesc) : VH := match d with
 | .array n e => evCutArr P h b o n e lo hi mx
 | .pointer arr => ob (P.underlying arr) fun d => ob (arrayE d) fun ne => evCutArr P h b o ne.1 ne.2 lo hi mx
 | _ => none
noncomputable def evSlice (P : Program) (tm : Fr) (h : Heap) (t : TypeId) (x : Operand) (lo hi mx : Option Operand) : VH :=
 ob (opnd tm x) fun v => ob (optOpnd tm lo) fun lo => ob (optOpnd tm hi) fun hi => ob (optOpnd tm mx) fun mx => ob (P.underlying t) fun d => match v with
  | .string s => gd (isStrD d && mx.isNone) (evCutStr h s lo hi)
  | .slice a n c2 => ob (sliceE d) fun e => evCutSlice P h a n c2 lo hi mx e
  | .pointer (some ⟨b, o, none⟩) => evCutPtr P h b o lo hi mx d
  | _ => none
noncomputable def evFieldAddr (P : Program) (tm : Fr) (h : Heap) (t : TypeId) (x : Operand) (f : Nat) : VH :=
 ob (opnd tm x) fun v => ob (asPtr v) fun p => ob (P.underlying t) fun d => ob (structE d) fun fs => ob (fs[f]?) fun g => ob (sizeT P g.type) fun n => gd (!Nat.beq n 0) (some (ptr p.1 (p.2 + g.offset), h))
noncomputable def evField (P : Program) (tm : Fr) (h : Heap) (t : TypeId) (x : Operand) (f : Nat) : VH :=
 ob (opnd tm x) fun v => ob (asAggV v) fun cs => ob (P.underlying t) fun d => ob (structE d) fun fs => ob (fs[f]?) fun g => ob (partV P g.type cs g.offset) fun v => some (v, h)
noncomputable def inB (i : Int) (n : Nat) : Bool := decide (0 ≤ i) && decide (i < n)
noncomputable def evIxPtr (P : Program) (h : Heap) (b o : Nat) (i : Int) (d : TypeDesc) : VH := ob (arrayE d) fun ne => ob (sizeT P ne.2) fun sz => gd (inB i ne.1) (some (ptr b (o + i.toNat * sz), h))
noncomputable def evIxSl (P : Program) (h : Heap) (b o n : Nat) (i : Int) (d : TypeDesc) : VH := ob (sliceE d) fun e => ob (sizeT P e) fun sz => gd (inB i n) (some (ptr b (o + i.toNat * sz), h))
noncomputable def evIndexAddr (P : Program) (tm : Fr) (h : Heap) (t : TypeId) (x ix : Operand) : VH :=
 ob (opnd tm x) fun v => ob (opnd tm ix) fun i => ob (asIntV i) fun i => ob (P.underlying t) fun d => match v with
  | .pointer (some ⟨b, o, none⟩) => evIxPtr P h b o i.2 d
  | .slice (some ⟨b, o, none⟩) n _ => evIxSl P h b o n i.2 d
  | _ => none
noncomputable def evIxAgg (P : Program) (h : Heap) (cs : List Value) (i : Int) (d : TypeDesc) : VH := ob (arrayE d) fun ne => ob (sizeT P ne.2) fun sz => gd (inB i ne.1) (ob (partV P ne.2 cs (i.toNat * sz)) fun v => some (v, h))
noncomputable def evIxStr (h : Heap) (s : ByteArray) (i : Int) (d : TypeDesc) : VH := gd (isStrD d && decide (0 ≤ i)) (ob (s.data.toList[i.toNat]?) fun b => some (.int .u8 b.toNat, h))
noncomputable def evIndex (P : Program) (tm : Fr) (h : Heap) (t : TypeId) (x ix : Operand) : VH :=
 ob (opnd tm x) fun v => ob (opnd tm ix) fun i => ob (asIntV i) fun i => ob (P.underlying t) fun d => match v with
  | .agg cs => evIxAgg P h cs.toList i.2 d
  | .string s => evIxStr h s i.2 d
  | _ => none
noncomputable def evLookup (P : Program) (tm : Fr) (h : Heap) (t : TypeId) (m k : Operand) (ok : Bool) : VH :=
 ob (opnd tm m) fun m => ob (asMapV m) fun r => ob (opnd tm k) fun k => ob (asIntV k) fun k => ob (P.underlying t) fun d => ob (mapE d) fun ke => ob (P.underlying ke.1) fun kd => gd (isIntD kd) (ob (mapB (h.get r)) fun es => ob (zeroT P ke.2) fun z =>
  ob (findE k.1 k.2 es.1 0) fun res => some (match res with | some (_, v) => cnd ok (.tuple #[v, .bool true]) v | none => cnd ok (.tuple #[enc z, .bool false]) (enc z), h))
noncomputable def evMapUpdate (P : Program) (tm : Fr) (h : Heap) (t : TypeId) (m k x : Operand) : VH :=
 ob (opnd tm m) fun m => ob (asMapV m) fun r => ob (opnd tm k) fun k => ob (asIntV k) fun k => ob (opnd tm x) fun v => ob (P.underlying t) fun d => ob (mapE d) fun ke => ob (P.underlying ke.1) fun kd => gd (isIntD kd) (ob (mapB (h.get r)) fun es =>
  ob (findE k.1 k.2 es.1 0) fun res => some (undef, match res with | some (i, _) => h.set r (.map (es.1.modify i fun e => { e with val := v }) es.2) | none => h.set r (.map (es.1 ++ [{ key := .int k.1 k.2, val := v, born := es.2 }]) (es.2 + 1))))
noncomputable def evMapEntry (P : Program) (tm : Fr) (h : Heap) (t : TypeId) (m k : Operand) : VH :=
 ob (opnd tm m) fun m => ob (asMapV m) fun r => ob (opnd tm k) fun k => ob (asIntV k) fun k => ob (P.underlying t) fun d => ob (mapE d) fun ke => ob (P.underlying ke.1) fun kd => gd (isIntD kd) (ob (mapB (h.get r)) fun es => ob (zeroT P ke.2) fun z =>
  ob (findE k.1 k.2 es.1 0) fun res => match res with
   | some (i, v) => ob (es.1[i]?) fun e => some (.tuple #[v, goInt e.born], h.set r (.map es.1 es.2))
   | none => some (.tuple #[enc z, goInt es.2], h.set r (.map (es.1 ++ [{ key := .int k.1 k.2, val := enc z, born := es.2 }]) (es.2 + 1))))
noncomputable def findB (b : Int) : List MapEntry → Nat → Option Nat
 | [], _ => none
 | e :: es, i => cnd (decide ((e.born : Int) = b)) (some i) (findB b es (Nat.succ i))
noncomputable def evEntryStore (tm : Fr) (h : Heap) (m s x : Operand) : VH :=
 ob (opnd tm m) fun m => ob (asMapV m) fun r => ob (opnd tm s) fun s => ob (asIntV s) fun b => ob (opnd tm x) fun v => ob (mapB (h.get r)) fun es =>
  ob (findB b.2 es.1 0) fun i => some (undef, h.set r (.map (es.1.modify i fun e => { e with val := v }) es.2))
noncomputable def evExtract (tm : Fr) (h : Heap) (x : Operand) (i : Nat) : VH := ob (opnd tm x) fun v => ob (asTupV v) fun vs => ob (vs[i]?) fun v => some (v, h)
noncomputable def evMakeInterface (P : Program) (tm : Fr) (h : Heap) (t : TypeId) (x : Operand) : VH := ob (opnd tm x) fun v => ob (P.underlying t) fun d => gd (!isIfaceD d) (some (.iface t v, h))

noncomputable def evOp (P : Program) (tm : Fr) (h : Heap) : Op → VH
 | .move x | .assign x => evMove tm h x
 | .pick c a b => evPick tm h c a b
 | .alloc e => evAlloc P h e
 | .box _ x => evBox tm h x
 | .build t parts => evBuild P tm h t parts.toList
 | .buildSlice t len parts => evBuildSlice P tm h t len parts.toList
 | .load t a => evLoad P tm h t a
 | .store t a x => evStore P tm h t a x
 | .nilCheck x => evNilCheck tm h x
 | .binOp op t x y _ => evBinOp P tm h op t x y
 | .unOp op _ x => evUnOp P tm h op x
 | .convert s d x => evConvert P tm h s d x
 | .makeFunc fn a c => evMakeFunc tm h fn a.toList c.toList
 | .makeMap _ r => evMakeMap h r
 | .makeSlice t l c => evMakeSlice P tm h t l c
 | .slice t x lo hi mx => evSlice P tm h t x lo hi mx
 | .fieldAddr t x f => evFieldAddr P tm h t x f
 | .field t x f => evField P tm h t x f
 | .indexAddr t x ix => evIndexAddr P tm h t x ix
 | .index t x ix => evIndex P tm h t x ix
 | .lookup t m k ok => evLookup P tm h t m k ok
 | .mapUpdate t m k x | .insert t m k x => evMapUpdate P tm h t m k x
 | .mapEntry t m k => evMapEntry P tm h t m k
 | .entryStore _ m s x => evEntryStore tm h m s x
 | .extract x i => evExtract tm h x i
 | .makeInterface t x => evMakeInterface P tm h t x
 | _ => none

noncomputable def srcCells (h : Heap) (sz : Nat) : Value → Option (Nat × List Value)
 | .slice none n _ => some (n, [])
 | .slice (some ⟨b, o, none⟩) n _ => ob (h.rd b o (n * sz)) fun c => some (n, c)
 | .string s => some (s.data.toList.length, s.data.toList.map fun b => .int .u8 b.toNat)
 | _ => none

noncomputable def apIn (h : Heap) (sz n m c2 : Nat) (new : List Value) : Option Addr → VH
 | none => gd (Nat.beq m 0) (some (.slice none (n + m) c2, h))
 | some ⟨b, o, none⟩ => ob (h.wr b (o + n * sz) new) fun h' => some (.slice (some ⟨b, o, none⟩) (n + m) c2, h')
 | _ => none
noncomputable def apNew (h : Heap) (sz n m : Nat) (c : List Value) : VH := some (.slice (some ⟨h.next, 0, none⟩) (n + m) (2 * (n + m)), h.push (.cells c sz))
noncomputable def apOut (h : Heap) (sz n m c2 : Nat) (new : List Value) : Option Addr → VH
 | none => gd (Nat.beq n 0) (apNew h sz n m new)
 | some ⟨b, o, none⟩ => ob (h.rd b o (n * sz)) fun old => cnd (Nat.beq (c2 % 2) 1) (apNew h sz n m (old ++ new))
   (ob (cellsEs (h.get b)) fun es => gd (Nat.beq es sz) (gd (new.all scal) (apNew (h.set b .dead) sz n m (old ++ new))))
 | _ => none
noncomputable def apGo (h : Heap) (sz bytes n c2 : Nat) (base : Option Addr) (m : Nat) (new : List Value) : VH :=
 gd (Nat.beq new.length (m * sz)) (cnd (Nat.ble (n + m) (c2 / 2)) (apIn h sz n m c2 new base) (gd (Nat.ble ((n + m) * bytes) 1099511627776) (gd (Nat.ble (n + m) 1099511627776) (apOut h sz n m c2 new base))))
noncomputable def evAppend (P : Program) (h : Heap) (st xt : TypeId) (s x : Value) : VH :=
 ob (P.underlying st) fun sd => ob (sliceE sd) fun e => ob (P.underlying xt) fun xd => gd (!isIntD xd) (ob (P.info? e) fun i => ob (zeroT P e) fun z => gd (Nat.beq (cellsL z).length i.size) (gd (Nat.ble 1 i.size) (ob (srcCells h i.size x) fun src => match s with
  | .slice base n c2 => apGo h i.size i.bytes n c2 base src.1 src.2
  | _ => none)))

noncomputable def srcLen : Value → Option Nat
 | .slice _ n _ => some n
 | .string s => some s.data.toList.length
 | _ => none
noncomputable def srcFirst (h : Heap) (k sz : Nat) : Value → Option (List Value)
 | .slice none _ _ => gd (Nat.beq k 0) (some [])
 | .slice (some ⟨b, o, none⟩) _ _ => h.rd b o (k * sz)
 | .string s => some ((s.data.toList.take k).map fun b => .int .u8 b.toNat)
 | _ => none
noncomputable def cpGo (h : Heap) (k : Nat) (c : List Value) : Option Addr → VH
 | none => gd (Nat.beq k 0) (some (.int .i64 k, h))
 | some ⟨b, o, none⟩ => ob (h.wr b o c) fun h' => some (.int .i64 k, h')
 | _ => none
noncomputable def evCopy (P : Program) (h : Heap) (dt : TypeId) (d x : Value) : VH :=
 ob (P.underlying dt) fun dd => ob (sliceE dd) fun e => ob (sizeT P e) fun sz => ob (srcLen x) fun m => match d with
  | .slice base n _ => ob (srcFirst h (Nat.min m n) sz x) fun c => cpGo h (Nat.min m n) c base
  | _ => none

noncomputable def lenD (P : Program) (h : Heap) (d : TypeDesc) (x : Value) : Option Nat := match x with
 | .string s => gd (isStrD d) (some s.data.toList.length)
 | .slice _ n _ => ob (sliceE d) fun _ => some n
 | .map none => ob (mapE d) fun _ => some 0
 | .map (some r) => ob (mapE d) fun _ => ob (mapB (h.get r)) fun es => some es.1.length
 | _ => cnd (ptrE d).isSome (ob (ptrE d) fun a => ob (P.underlying a) fun d => ob (arrayE d) fun ne => some ne.1) (ob (arrayE d) fun ne => some ne.1)
noncomputable def evLen (P : Program) (h : Heap) (t : TypeId) (x : Value) : VH := ob (P.underlying t) fun d => ob (lenD P h d x) fun n => some (.int .i64 n, h)
noncomputable def capS : Value → Option Nat
 | .slice _ _ c2 => gd (Nat.beq (c2 % 2) 1) (some (Nat.div c2 2))
 | _ => none
noncomputable def evCap (P : Program) (h : Heap) (t : TypeId) (x : Value) : VH := ob (P.underlying t) fun d => ob (sliceE d) fun _ => ob (capS x) fun c => some (.int .i64 c, h)
noncomputable def evMM (h : Heap) (mx : Bool) (x y : Value) : VH := ob (asIntV x) fun a => ob (asIntV y) fun b => some (.int a.1 (cnd mx (cnd (decide (b.2 > a.2)) b.2 a.2) (cnd (decide (b.2 < a.2)) b.2 a.2)), h)
noncomputable def evDelete (P : Program) (h : Heap) (t : TypeId) (m k : Value) : VH :=
 ob (asMapV m) fun r => ob (asIntV k) fun k => ob (P.underlying t) fun d => ob (mapE d) fun ke => ob (P.underlying ke.1) fun kd => gd (isIntD kd) (ob (mapB (h.get r)) fun es => ob (findE k.1 k.2 es.1 0) fun res => some (undef, match res with | some (i, _) => h.set r (.map (es.1.eraseIdx i) es.2) | none => h))
noncomputable def clGo (P : Program) (h : Heap) (e : TypeId) (sz n : Nat) : Option Addr → VH
 | none => some (undef, h)
 | some ⟨b, o, none⟩ => cnd (Nat.beq n 0) (some (undef, h)) (ob (zeroT P e) fun z => gd (Nat.beq (cellsL z).length sz) (gd (Nat.ble 1 sz) (ob (h.wr b o (zeroRow (cellsL (enc z)) n)) fun h' => some (undef, h'))))
 | _ => none
noncomputable def evClear (P : Program) (h : Heap) (t : TypeId) (x : Value) : VH := ob (P.underlying t) fun d => ob (sliceE d) fun e => ob (sizeT P e) fun sz => match x with
 | .slice a n _ => clGo P h e sz n a
 | _ => none
noncomputable def evBuiltin (P : Program) (h : Heap) (b : Builtin) (ts : List TypeId) (args : List Value) : VH :=
 match b, ts, args with
 | .append, st :: xt :: _, [s, x] => evAppend P h st xt s x
 | .copy, dt :: _, [d, x] => evCopy P h dt d x
 | .len, t :: _, [x] => evLen P h t x
 | .cap, t :: _, [x] => evCap P h t x
 | .max, _, [x, y] => evMM h true x y
 | .min, _, [x, y] => evMM h false x y
 | .delete, t :: _, [m, k] => evDelete P h t m k
 | .clear, t :: _, [x] => evClear P h t x
 | _, _, _ => none

structure St where
 tm : Fr
 h : Heap
 ms : List Nat

structure Rec where
 F : FuncId → List Value → Heap → Option (Value × Heap)
 C : Option Nat → Nat → Code → St → Option (Exit × St)

noncomputable def putL (n : Nat) (tm : Fr) (d : Option Tmp) (v : Value) : Fr := match d with
 | some d => Fr.put n tm d v
 | none => tm

noncomputable def setParams (n : Nat) : List (Tmp × Value) → Fr → Fr
 | [], tm => tm
 | (t, v) :: l, tm => setParams n l (Fr.put n tm t v)

noncomputable def yieldV (l : Nat) : Value := .func (.yield l) #[] #[]

noncomputable def jumpOf : Exit → Option (Option Code)
 | .normal => some none
 | .ret => some (some .ret)
 | .exit id => some (some (.exit id))
 | .goto l => some (some (.goto l))
 | _ => none

noncomputable def loopB : Blk → Option LoopA
 | .loop L => some L
 | _ => none
noncomputable def isReady : LoopState → Bool
 | .ready => true
 | _ => false
noncomputable def isBusy : LoopState → Bool
 | .busy => true
 | _ => false
noncomputable def isNormal : Exit → Bool
 | .normal => true
 | _ => false
noncomputable def evRound (r : Rec) (l : Nat) (args : List Value) (h : Heap) : VH :=
 ob (loopB (h.get l)) fun L => gd (Nat.beq args.length L.params.length) (ob (r.C (some l) L.n L.assign ⟨setParams L.n (L.params.zip args) L.tm, h, []⟩) fun q1 => gd (isNormal q1.1) (ob (loopB (q1.2.h.get l)) fun L1 => gd (isReady L1.state)
  (ob (r.C (some l) L.n L.body ⟨q1.2.tm, q1.2.h.set l (.loop { L1 with state := .busy }), q1.2.ms⟩) fun q2 => ob (jumpOf q2.1) fun j => ob (loopB (q2.2.h.get l)) fun L2 =>
   some (.bool j.isNone, q2.2.h.set l (.loop { L2 with state := cnd j.isNone .ready .done, pending := j })))))

noncomputable def evCallV (r : Rec) (h : Heap) (args : List Value) (f : Value) : VH := match f with
 | .func (.func g) a b => r.F g (a.toList ++ args ++ b.toList) h
 | .func (.yield l) a b => gd (a.toList.isEmpty && b.toList.isEmpty) (evRound r l args h)
 | _ => none
/-! a method, found behind an interface value -/
inductive PlV where
 | val (v : Value)
 | var (b o : Nat)
noncomputable def plGet (P : Program) (h : Heap) (t : TypeId) : PlV → Option Value
 | .val v => some v
 | .var b o => ldV P h t b o
noncomputable def plStep (P : Program) (h : Heap) (t : TypeId) (f : Field) (deref : Bool) (x : PlV) : Option PlV :=
 cnd deref (ob (plGet P h t x) fun v => ob (asPtr v) fun p => ob (sizeT P f.type) fun n => gd (!Nat.beq n 0) (some (.var p.1 (p.2 + f.offset))))
 (match x with
  | .var b o => ob (sizeT P f.type) fun n => gd (!Nat.beq n 0) (some (.var b (o + f.offset)))
  | .val v => ob (asAggV v) fun cs => ob (partV P f.type cs f.offset) fun u => some (.val u))
noncomputable def followV (P : Program) (h : Heap) : List FieldStep → TypeId → PlV → Option (TypeId × PlV)
 | [], t, x => some (t, x)
 | s :: rest, t, x => ob (P.underlying s.struct) fun d => ob (structE d) fun fs => ob (fs[s.index]?) fun f => ob (plStep P h t f s.deref x) fun y => followV P h rest f.type y
noncomputable def isPtrD : TypeDesc → Bool
 | .pointer _ => true
 | _ => false
noncomputable def recvV (P : Program) (h : Heap) (xt : TypeId) (x : PlV) (pr : Bool) : Option Value := ob (P.underlying xt) fun d => cnd (isPtrD d) (gd pr (plGet P h xt x))
 (cnd pr (match x with
  | .var b o => some (ptr b o)
  | .val _ => none) (plGet P h xt x))
noncomputable def ifaceV : Value → Option (TypeId × Value)
 | .iface t v => some (t, v)
 | _ => none
noncomputable def methV (P : Program) (h : Heap) : Nat → TypeId → Value → String → Option (FuncId × Value)
 | 0, _, _, _ => none
 | k + 1, t, v, name => ob (P.info? t) fun i => ob (i.methods.toList.find? (·.name == name)) fun m => ob (followV P h m.path.toList t (.val v)) fun q => match m.func with
  | none => ob (plGet P h q.1 q.2) fun u => ob (ifaceV u) fun u => methV P h k u.1 u.2 name
  | some fp => ob (recvV P h q.1 q.2 fp.2) fun x => some (fp.1, x)
noncomputable def evInvV (P : Program) (r : Rec) (h : Heap) (args : List Value) (m : String) (v : Value) : VH := ob (ifaceV v) fun u => ob (methV P h 20 u.1 u.2 m) fun fx => r.F fx.1 (fx.2 :: args) h

noncomputable def evCall (P : Program) (r : Rec) (c : Call) (st : St) : VH :=
 ob (opnds st.tm c.args.toList) fun args => match c.callee with
  | .builtin b => evBuiltin P st.h b c.argTypes.toList args
  | .value f => ob (opnd st.tm f) fun f => evCallV r st.h args f
  | .invoke x m => ob (opnd st.tm x) fun v => evInvV P r st.h args m v

noncomputable def evO (P : Program) (r : Rec) (o : Oper) (st : St) : VH := match o.op with
 | .call c => evCall P r c st
 | op => evOp P st.tm st.h op

noncomputable def dstL (all : List Oper) (j : Nat) : Option Tmp := match all[j]? with
 | some o => o.dst
 | none => none
noncomputable def isB (want : Bool) : Value → Bool
 | .bool b => b == want
 | _ => false
noncomputable def guardL (all : List Oper) (tm : Fr) (j : Nat) (want : Bool) : Bool := match dstL all j with
 | some d => isB want (Fr.get tm d)
 | none => false
noncomputable def wantedL (all : List Oper) (o : Oper) (tm : Fr) : Bool := match o.guard with
 | none => true
 | some (j, want) => guardL all tm j want

noncomputable def evOps (P : Program) (r : Rec) (n : Nat) (all : List Oper) : List Oper → St → Option St
 | [], st => some st
 | o :: rest, st => cnd (wantedL all o st.tm) (ob (evO P r o st) fun vh => evOps P r n all rest ⟨putL n st.tm o.dst vh.1, vh.2, st.ms⟩) (evOps P r n all rest ⟨putL n st.tm o.dst undef, st.h, st.ms⟩)

noncomputable def veq0 : Value → Value → Bool
 | .bool a, .bool b => a == b
 | .int j a, .int k b => decide (j = k) && decide (a = b)
 | .string a, .string b => a.data.toList == b.data.toList
 | .pointer none, .pointer none => true
 | .pointer (some ⟨a, o, none⟩), .pointer (some ⟨b, q, none⟩) => Nat.beq a b && Nat.beq o q
 | .slice none n c, .slice none m d => Nat.beq n m && Nat.beq c d
 | .slice (some ⟨a, o, none⟩) n c, .slice (some ⟨b, q, none⟩) m d => Nat.beq a b && (Nat.beq o q && (Nat.beq n m && Nat.beq c d))
 | .map none, .map none => true
 | .map (some a), .map (some b) => Nat.beq a b
 | .nilFunc, .nilFunc => true
 | .nilIface, .nilIface => true
 | _, _ => false
noncomputable def veq1 : Value → Value → Bool
 | .iface t a, .iface u b => Nat.beq t u && veq0 a b
 | .func (.func f) a b, .func (.func g) c d => Nat.beq f g && (a.toList.isEmpty && (b.toList.isEmpty && (c.toList.isEmpty && d.toList.isEmpty)))
 | a, b => veq0 a b
noncomputable def veqL : List Value → List Value → Bool
 | [], [] => true
 | a :: l, b :: m => veq1 a b && veqL l m
 | _, _ => false
noncomputable def veq : Value → Value → Bool
 | .agg a, .agg b => veqL a.toList b.toList
 | .tuple a, .tuple b => veqL a.toList b.toList
 | a, b => veq1 a b

noncomputable def clsConv : Option TypeDesc → Option TypeDesc → Nat
 | some (.int _), some (.int _) => 0
 | some .string, some .string => 0
 | some (.slice _), some .string => 1
 | _, _ => 2
noncomputable def cls (P : Program) : Op → Nat
 | .move _ | .assign _ | .pick .. | .build .. | .nilCheck _ | .binOp .. | .unOp .. | .makeFunc .. | .fieldAddr .. | .field .. | .indexAddr .. | .index .. | .extract .. | .makeInterface .. => 0
 | .load .. | .lookup .. | .slice .. => 1
 | .call { callee := .builtin .len, .. } => 1
 | .call { callee := .builtin .cap, .. } | .call { callee := .builtin .max, .. } | .call { callee := .builtin .min, .. } => 0
 | .convert s d _ => clsConv (P.underlying s) (P.underlying d)
 | .alloc _ | .box .. | .buildSlice .. => 3
 | _ => 2

/-! a region that draws its order: one order is gone through, the text's, but that new blocks are laid as late as may be; what reads must read the same wherever it may stand -/
noncomputable def edgeBits (acc : List Nat) (i : Nat) : List Edge → Option Nat
 | [] => some 0
 | e :: es => cnd (Region.binds .any e) (cnd (Nat.blt e.on i) (match edgeBits acc i es with
   | some b => some (Nat.lor (Nat.lor b (Nat.pow 2 e.on)) (acc.getD e.on 0))
   | none => none) none) (edgeBits acc i es)
noncomputable def ancGo : List Oper → Nat → List Nat → Option (List Nat)
 | [], _, acc => some acc
 | o :: r, i, acc => match edgeBits acc i o.after.toList with
  | some b => ancGo r (Nat.succ i) (acc ++ [b])
  | none => none

noncomputable def tmpsOf : List Operand → List Tmp
 | [] => []
 | .tmp t :: l => t :: tmpsOf l
 | _ :: l => tmpsOf l
noncomputable def usesL (all : List Oper) (o : Oper) : List Tmp := (match o.guard with
 | none => []
 | some (j, _) => (dstL all j).toList) ++ tmpsOf o.op.operands.toList

noncomputable def hitT : Option Tmp → List Tmp → Bool
 | none, _ => false
 | some d, l => l.any (Nat.beq d)
noncomputable def sameD : Option Tmp → Option Tmp → Bool
 | some a, some b => Nat.beq a b
 | _, _ => false
noncomputable def isEff (P : Program) (o : Oper) : Bool := Nat.beq (cls P o.op) 2
noncomputable def isLate (P : Program) (o : Oper) : Bool := Nat.beq (cls P o.op) 3
noncomputable def isChg (P : Program) (o : Oper) : Bool := isEff P o || isLate P o
noncomputable def hasBit (A : List Nat) (i : Nat) (p : Nat × Oper) : Bool := Nat.testBit (A.getD i 0) p.1
noncomputable def canGo (P : Program) (A : List Nat) : List Oper → Nat → List (Nat × Oper) → List (Nat × Oper)
 | [], _, pend => pend
 | o :: l, i, pend => cnd (isLate P o) (canGo P A l (Nat.succ i) (pend ++ [(i, o)])) (pend.filter (hasBit A i) ++ (i, o) :: canGo P A l (Nat.succ i) (pend.filter fun p => !hasBit A i p))
noncomputable def pairOK (P : Program) (all : List Oper) (a : Oper) (ai : Nat) (b : Oper) (bits : Nat) : Bool :=
 (Nat.testBit bits ai || !(hitT a.dst (usesL all b) || (sameD a.dst b.dst || (hitT b.dst (usesL all a) || (isChg P a && isEff P b))))) && !((isLate P a || isLate P b) && sameD a.dst b.dst)
noncomputable def pairsTo (P : Program) (all : List Oper) : List (Nat × Oper) → Oper → Nat → Bool
 | [], _, _ => true
 | a :: l, b, bits => pairOK P all a.2 a.1 b bits && pairsTo P all l b bits
noncomputable def consGo (P : Program) (us : List Tmp) (bits : Nat) : List (Nat × Oper) → Nat → Bool
 | [], _ => true
 | a :: l, m => (!(isLate P a.2 && hitT a.2.dst us) || Nat.beq (Nat.land m bits) m) && consGo P us bits l (cnd (isChg P a.2) (Nat.lor m (Nat.pow 2 a.1)) m)
noncomputable def pairsAll (P : Program) (all : List Oper) (A : List Nat) : List (Nat × Oper) → List (Nat × Oper) → Nat → Bool
 | _, [], _ => true
 | seen, b :: l, m => (Nat.beq (Nat.land (A.getD b.1 0) m) (A.getD b.1 0) && (pairsTo P all seen b.2 (A.getD b.1 0) && consGo P (usesL all b.2) (A.getD b.1 0) seen 0)) && pairsAll P all A (seen ++ [b]) l (Nat.lor m (Nat.pow 2 b.1))
noncomputable def regOK (P : Program) (all : List Oper) : Option (List Nat × List (Nat × Oper)) := match ancGo all 0 [] with
 | some A => cnd (pairsAll P all A [] (canGo P A all 0 []) 0) (some (A, canGo P A all 0 [])) none
 | none => none

noncomputable def loOf (P : Program) (bits : Nat) : List (Nat × Oper) → Nat
 | [] => 0
 | a :: l => cnd (isEff P a.2 && Nat.testBit bits a.1) (Nat.succ (loOf P bits l)) (loOf P bits l)
noncomputable def hiOf (P : Program) (A : List Nat) (i : Nat) : List (Nat × Oper) → Nat
 | [] => 0
 | a :: l => cnd (isChg P a.2) (cnd (Nat.testBit (A.getD a.1 0) i) 0 (Nat.succ (hiOf P A i l))) (hiOf P A i l)

structure Rd where
 i : Nat
 o : Oper
 tm : Fr
 v : Value

noncomputable def evTrace (P : Program) (r : Rec) (n : Nat) (all : List Oper) : List (Nat × Oper) → St → List Heap → List Rd → Option (St × List Heap × List Rd)
 | [], st, hs, rs => some (st, hs, rs)
 | a :: rest, st, hs, rs => cnd (wantedL all a.2 st.tm)
   (ob (evO P r a.2 st) fun vh => evTrace P r n all rest ⟨putL n st.tm a.2.dst vh.1, vh.2, st.ms⟩ (cnd (isChg P a.2) (hs ++ [vh.2]) hs) (cnd (Nat.beq (cls P a.2.op) 1) (rs ++ [⟨a.1, a.2, st.tm, vh.1⟩]) rs))
   (evTrace P r n all rest ⟨putL n st.tm a.2.dst undef, st.h, st.ms⟩ (cnd (isChg P a.2) (hs ++ [st.h]) hs) rs)

noncomputable def rdOne (P : Program) (r : Rec) (x : Rd) (ms : List Nat) (h : Heap) : Bool := match evO P r x.o ⟨x.tm, h, ms⟩ with
 | some vh => veq x.v vh.1
 | none => false
noncomputable def rdAt (P : Program) (r : Rec) (x : Rd) (ms : List Nat) : List Heap → Bool
 | [] => true
 | h :: hs => rdOne P r x ms h && rdAt P r x ms hs
noncomputable def rdsOK (P : Program) (r : Rec) (C : List (Nat × Oper)) (A : List Nat) (ms : List Nat) (hs : List Heap) : List Rd → Bool
 | [] => true
 | x :: xs => (fun lo hi => Nat.beq lo hi || rdAt P r x ms ((hs.drop lo).take (Nat.succ hi - lo))) (loOf P (A.getD x.i 0) C) (hiOf P A x.i C) && rdsOK P r C A ms hs xs

noncomputable def evRegion (P : Program) (r : Rec) (n : Nat) (ops : List Oper) (draw : Bool) (st : St) : Option St :=
 cnd draw (match regOK P ops with
  | some AC => match evTrace P r n ops AC.2 st [st.h] [] with
   | some (st', hs, rs) => cnd (rdsOK P r AC.2 AC.1 st.ms hs rs) (some st') none
   | none => none
  | none => none)
 (evOps P r n ops ops st)

noncomputable def endLoopV (h : Heap) (l : Nat) : Option (Option Code × Heap) := ob (loopB (h.get l)) fun L => gd (!isBusy L.state) (some (L.pending, h.set l (.loop { L with state := .exhausted })))

abbrev CR := Option (Exit × St)
noncomputable def thenC (r : Rec) (ro : Option Nat) (n : Nat) (b : Code) (q : Exit × St) : CR := match q.1 with
 | .normal => r.C ro n b q.2
 | _ => some q
noncomputable def loopC (f : St → CR) (q : Exit × St) : CR := match q.1 with
 | .normal => f q.2
 | _ => some q
noncomputable def evLoop (r : Rec) (ro : Option Nat) (n : Nat) (body : Code) (j : Nat) : St → CR := Nat.rec (fun _ => none) (fun _ ih st => ob (r.C ro n body st) fun q => loopC ih q) j
noncomputable def blockC (id : Nat) (q : Exit × St) : CR := match q.1 with
 | .exit i => cnd (Nat.beq i id) (some (.normal, q.2)) (some q)
 | _ => some q
noncomputable def scopeC (q : Exit × St) : CR := match q.1 with
 | .goto _ => none
 | _ => some q
noncomputable def rangeHead (ro : Option Nat) (st : St) : Option (Heap × Nat × List Nat) := match ro with
 | none => some (st.h.push .defd, st.h.next, st.h.next :: st.ms)
 | some l => ob (loopB (st.h.get l)) fun L => some (st.h, L.defers, st.ms)
noncomputable def rangeTail (r : Rec) (ro : Option Nat) (n : Nat) (tm : Fr) (ms : List Nat) (q : Option Code × Heap) : CR := match q.1 with
 | none => some (.normal, ⟨tm, q.2, ms⟩)
 | some c => r.C ro n c ⟨tm, q.2, ms⟩
noncomputable def rangeC (r : Rec) (ro : Option Nat) (n : Nat) (g : Value) (ps : List Tmp) (assign body : Code) (st : St) : CR := match g with
 | .func (.func f) a b => ob (rangeHead ro st) fun q =>
   ob (r.F f (a.toList ++ [yieldV q.1.next] ++ b.toList) (q.1.push (.loop { state := .ready, pending := none, n := n, tm := st.tm, params := ps, assign := assign, body := body, defers := q.2.1 }))) fun vh =>
   ob (endLoopV vh.2 q.1.next) fun e => rangeTail r ro n st.tm q.2.2 e
 | _ => none

noncomputable def stepC (P : Program) (r : Rec) (ro : Option Nat) (n : Nat) (c : Code) (st : St) : CR :=
 match c with
 | .skip => some (.normal, st)
 | .label _ => some (.normal, st)
 | .ret => some (.ret, st)
 | .exit id => some (.exit id, st)
 | .region _ ops draw => ob (evRegion P r n ops.toList draw st) fun st' => some (.normal, st')
 | .seq a b => ob (r.C ro n a st) fun q => thenC r ro n b q
 | .cond c a b => ob (opnd st.tm c) fun v => ob (asBoolV v) fun t => r.C ro n (cnd t a b) st
 | .block id body => ob (r.C ro n body st) fun q => blockC id q
 | .loop body => evLoop r ro n body 1000000 st
 | .scope body => ob (r.C ro n body st) fun q => scopeC q
 | .rangeFunc g ps assign body => ob (opnd st.tm g) fun g => rangeC r ro n g ps.toList assign body st
 | _ => none

noncomputable def resV (P : Program) (tm : Fr) (h : Heap) : ResultVar → Option Value
 | .tmp t => some (Fr.get tm t)
 | .cell a t => ob (asPtr (Fr.get tm a)) fun p => ldV P h t p.1 p.2
noncomputable def resVs (P : Program) (tm : Fr) (h : Heap) : List ResultVar → Option (List Value)
 | [] => some []
 | x :: l => ob (resV P tm h x) fun v => ob (resVs P tm h l) fun vs => some (v :: vs)
noncomputable def oneOf : List Value → Value
 | [v] => v
 | vs => .tuple ⟨vs⟩
noncomputable def isDefd : Blk → Bool
 | .defd => true
 | _ => false
noncomputable def killL : List Nat → Heap → Option Heap
 | [], h => some h
 | d :: l, h => gd (isDefd (h.get d)) (killL l (h.set d .dead))

noncomputable def leave (P : Program) (fn : Func) (st : St) : VH := ob (killL st.ms st.h) fun h => ob (resVs P st.tm h fn.results.toList) fun vs => some (oneOf vs, h)
noncomputable def isOut : Exit → Bool
 | .normal | .ret => true
 | _ => false
noncomputable def stepF (P : Program) (r : Rec) (f : FuncId) (args : List Value) (h : Heap) : VH :=
 ob (P.funcs[f]?) fun fn => ob fn.body fun c => ob (r.C none (args.length + (fn.ntmps - args.length)) c ⟨Fr.fill args 0 .nil, h, []⟩) fun q => gd (isOut q.1) (leave P fn q.2)

noncomputable def ev (P : Program) : Nat → Rec
 | 0 => ⟨fun _ _ _ => none, fun _ _ _ _ => none⟩
 | k + 1 => ⟨stepF P (ev P k), stepC P (ev P k)⟩
end Go.Proofs.YtddgcakiceodgaaGreat.EV
