-- by a program of this session, out of the translation
import Derived.Test.YthaacidfpcljfaaProg
import Derived.Below
import Derived.Deep.Draws
import Derived.Deep.AppendLies
import Derived.Maps.AppendAt
import Derived.OwnWalk
import Derived.Laws.BytesArg
import Derived.Laws.MakeOwn
import Derived.Laws.OwnMore
import Derived.Deep.OwnRows
import Derived.Tactics
import Derived.Lib.ConvBytes
import Derived.Laws.Slices
import Derived.WalkKit
import Derived.KernelRfl
import Derived.RowKit3
import Derived.Deep.LoopGhost
import Derived.Deep.QuietTactic
import Derived.BigQuiet
import Derived.WideLaws
import Derived.Deep.DeepCutAuto
import Derived.Deep.CutBlock
import Derived.Deep.RegionHeld3
import Derived.Laws.Rows
import Derived.Lib.AppendStr
import Derived.ArgAppend
import Derived.Laws.IdiomCopy
import Derived.OrdersHeld
import Derived.Laws.BitsLemmas
import Derived.RowKit
import Derived.Test.YthaacidfpcljfaaWWords
import Derived.Test.YthaacidfpcljfaaWLast
import Derived.Test.YthaacidfpcljfaaWTab
import Derived.Test.YthaacidfpcljfaaWFour
import Derived.Test.YthaacidfpcljfaaWQPut
import Derived.Test.YthaacidfpcljfaaWApart
import Derived.Test.YthaacidfpcljfaaWArr
import Derived.Test.YthaacidfpcljfaaWZeros
import Derived.Test.YthaacidfpcljfaaWFoot
import Derived.Test.YthaacidfpcljfaaWKept
import Derived.Test.YthaacidfpcljfaaWShare
import Derived.Test.YthaacidfpcljfaaWN
import Derived.Test.YthaacidfpcljfaaWFootNe
import Derived.Test.YthaacidfpcljfaaWAt
import Derived.Test.YthaacidfpcljfaaWEqStruct
import Derived.Test.YthaacidfpcljfaaWRepsOne
import Derived.Test.YthaacidfpcljfaaWInv
import Derived.Test.YthaacidfpcljfaaWInvWords
import Derived.Test.YthaacidfpcljfaaWGuard
import Derived.Test.YthaacidfpcljfaaWNEv
import Derived.Test.YthaacidfpcljfaaWMore
namespace Go.Proofs.Ythaacidfpcljfaa.PA
open Go.RowKit Go.Proofs.YthaacidfpcljfaaW.PrintWords Go.Proofs.YthaacidfpcljfaaW.PrintLast Go.Proofs.YthaacidfpcljfaaW.PrintMore
attribute [local go_sem] max2_int min2_int max_two min_two max_three min_three max_four min_four   -- for this text's walks alone
set_option linter.unusedVariables false
set_option linter.unusedSimpArgs false



def errW : Option Int → Value
  | none => .nilIface
  | some c => .iface 0 (.int .i64 c)
theorem errW_none : errW none = .nilIface := rfl
theorem errW_some (c : Int) : errW (some c) = .iface 0 (.int .i64 c) := rfl

theorem text_C {k : IntKind} {W : World} {g : Nat} {e : TypeId} {fr : Nat × Nat} {cs : Array Value} (l : List Int) (hb : W.heap[g]? = some (.cells cs e fr)) (hcs : cs = (l.map (Value.int k)).toArray) (hl : l.length ≤ 9223372036854775807) :
    Kd.C (Kd.int k) W (some ⟨g, 0, none⟩) l.length l := by
  refine Kd.C_of_reads (d := (0 : Int)) ⟨rfl, hl, fun hn => ⟨⟨g, 0, none⟩, rfl, fun j hj => ?_⟩⟩
  have ha : (⟨g, 0, none⟩ : Addr).add j = ⟨g, j, none⟩ := by unfold Addr.add; split <;> simp_all
  rw [ha]
  unfold World.cell?
  simp [hb, hcs, List.getElem?_map, List.getElem?_eq_getElem hj, List.getD_eq_getElem?_getD]
theorem alloc_at (w : World) (o : Obj) : (w.alloc o).heap[w.heap.size]? = some o := by
  show (w.heap.push o)[w.heap.size]? = _
  simp
theorem rr_len_ {α : Type} {R : α → List Value → Prop} {size : Nat} {w : World} {A : Option Addr} {n n' : Nat} {ps : List α} (h : n = n') (hr : ReadsRow R size w A n ps) : ReadsRow R size w A n' ps := h ▸ hr

theorem info2 : (Try.prog.info? 2).map (fun i => (i.zero, i.size, i.bytes)) = some (some (.int .i64 0), 1, 8) := by kernel_rfl
-- the values' own types
/-! #### struct type 48 -/
structure S48 where
  f0 : Int
  f1 : Int
def z48 : S48 := ⟨(0 : Int), (0 : Int)⟩
def k48 : Kd S48 := Kd.iso (Kd.pair (Kd.int .i64) (Kd.int .u64)) (fun x : S48 => (x.f0, x.f1))
theorem k48_open {w : World} {x : S48} {cs : List Value} (h : k48.K w x cs) : cs = [.int .i64 x.f0, .int .u64 x.f1] := by
  obtain ⟨_, _, rfl, rfl, rfl⟩ := h
  exact rfl
theorem k48_openM {w : World} {base : Nat} {ok : Nat → Prop} {x : S48} {cs : List Value} (h : k48.M w base ok x cs) : cs = [.int .i64 x.f0, .int .u64 x.f1] := by
  obtain ⟨_, _, rfl, rfl, rfl⟩ := h
  exact rfl
theorem k48_mk (w : World) (x : S48)  : k48.K w x [.int .i64 x.f0, .int .u64 x.f1] := ⟨[.int .i64 x.f0], [.int .u64 x.f1], rfl, rfl, rfl⟩
theorem k48_mkM (w : World) (base : Nat) (ok : Nat → Prop) (x : S48)  : k48.M w base ok x [.int .i64 x.f0, .int .u64 x.f1] := ⟨[.int .i64 x.f0], [.int .u64 x.f1], rfl, rfl, rfl⟩
def rd_T48 (xs : List S48) (i : Int) : S48 := xs.getD i.toNat z48
theorem at_T48 {w : World} {A : Option Addr} {n : Nat} {xs : List S48} (h : Kd.C k48 w A n xs) (i : Int) (h0 : 0 ≤ i) (h1 : i < n) : ∃ ad , A = some ad ∧ w.cell? (ad.add (i.toNat * 2)) = some (.int .i64 (rd_T48 xs i).f0) ∧ w.cell? ⟨(ad.add (i.toNat * 2)).block, (ad.add (i.toNat * 2)).off + 1, none⟩ = some (.int .u64 (rd_T48 xs i).f1) := by
  obtain ⟨ad, c, e, _, hK, hc0⟩ := Kd.C_get h z48 i h0 h1
  have hc : ∀ j u, c[j]? = some u → w.cell? (ad.add (i.toNat * 2 + j)) = some u := hc0
  obtain rfl := k48_open hK
  exact ⟨ad, e, hc 0 _ rfl, by rw [← add_field _ _ 1 (by omega)]; exact hc 1 _ rfl⟩

end Go.Proofs.Ythaacidfpcljfaa.PA
