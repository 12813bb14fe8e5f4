-- by a program of this session, out of the translation
import Derived.Test.YtcmgioafkacgdaaProg
import Derived.Below
import Derived.Deep.Draws
import Derived.Deep.AppendLies
import Derived.Maps.AppendAt
import Derived.OwnWalk
import Derived.Laws.BytesArg
import Derived.Laws.MakeOwn
import Derived.Laws.OwnMore
import Derived.Deep.OwnRows
import Derived.Tactics
import Derived.Lib.ConvBytes
import Derived.Laws.Slices
import Derived.WalkKit
import Derived.KernelRfl
import Derived.RowKit3
import Derived.Deep.LoopGhost
import Derived.Deep.QuietTactic
import Derived.BigQuiet
import Derived.WideLaws
import Derived.Deep.DeepCutAuto
import Derived.Deep.CutBlock
import Derived.Deep.RegionHeld3
import Derived.Laws.Rows
import Derived.Lib.AppendStr
import Derived.ArgAppend
import Derived.Laws.IdiomCopy
import Derived.OrdersHeld
import Derived.Laws.BitsLemmas
import Derived.RowKit
import Derived.Test.YtcmgioafkacgdaaWWords
import Derived.Test.YtcmgioafkacgdaaWLast
import Derived.Test.YtcmgioafkacgdaaWTab
import Derived.Test.YtcmgioafkacgdaaWFour
import Derived.Test.YtcmgioafkacgdaaWQPut
import Derived.Test.YtcmgioafkacgdaaWApart
import Derived.Test.YtcmgioafkacgdaaWArr
import Derived.Test.YtcmgioafkacgdaaWZeros
import Derived.Test.YtcmgioafkacgdaaWFoot
import Derived.Test.YtcmgioafkacgdaaWKept
import Derived.Test.YtcmgioafkacgdaaWShare
import Derived.Test.YtcmgioafkacgdaaWN
import Derived.Test.YtcmgioafkacgdaaWFootNe
import Derived.Test.YtcmgioafkacgdaaWAt
import Derived.Test.YtcmgioafkacgdaaWEqStruct
import Derived.Test.YtcmgioafkacgdaaWRepsOne
import Derived.Test.YtcmgioafkacgdaaWInv
import Derived.Test.YtcmgioafkacgdaaWInvWords
import Derived.Test.YtcmgioafkacgdaaWGuard
import Derived.Test.YtcmgioafkacgdaaWNEv
import Derived.Test.YtcmgioafkacgdaaWMore
namespace Go.Proofs.Ytcmgioafkacgdaa.PA
open Go.RowKit Go.Proofs.YtcmgioafkacgdaaW.PrintWords Go.Proofs.YtcmgioafkacgdaaW.PrintLast Go.Proofs.YtcmgioafkacgdaaW.PrintMore
attribute [local go_sem] max2_int min2_int max_two min_two max_three min_three max_four min_four   -- for this text's walks alone
set_option linter.unusedVariables false
set_option linter.unusedSimpArgs false



def errW : Option Int → Value
  | none => .nilIface
  | some c => .iface 0 (.int .i64 c)
theorem errW_none : errW none = .nilIface := rfl
theorem errW_some (c : Int) : errW (some c) = .iface 0 (.int .i64 c) := rfl

theorem text_C {k : IntKind} {W : World} {g : Nat} {e : TypeId} {fr : Nat × Nat} {cs : Array Value} (l : List Int) (hb : W.heap[g]? = some (.cells cs e fr)) (hcs : cs = (l.map (Value.int k)).toArray) (hl : l.length ≤ 9223372036854775807) :
    Kd.C (Kd.int k) W (some ⟨g, 0, none⟩) l.length l := by
  refine Kd.C_of_reads (d := (0 : Int)) ⟨rfl, hl, fun hn => ⟨⟨g, 0, none⟩, rfl, fun j hj => ?_⟩⟩
  have ha : (⟨g, 0, none⟩ : Addr).add j = ⟨g, j, none⟩ := by unfold Addr.add; split <;> simp_all
  rw [ha]
  unfold World.cell?
  simp [hb, hcs, List.getElem?_map, List.getElem?_eq_getElem hj, List.getD_eq_getElem?_getD]
theorem alloc_at (w : World) (o : Obj) : (w.alloc o).heap[w.heap.size]? = some o := by
  show (w.heap.push o)[w.heap.size]? = _
  simp
theorem rr_len_ {α : Type} {R : α → List Value → Prop} {size : Nat} {w : World} {A : Option Addr} {n n' : Nat} {ps : List α} (h : n = n') (hr : ReadsRow R size w A n ps) : ReadsRow R size w A n' ps := h ▸ hr

theorem info5 : (Try.prog.info? 5).map (fun i => (i.zero, i.size, i.bytes)) = some (some (.int .u8 0), 1, 1) := by kernel_rfl
-- the values' own types
def rd_L1 (xs : List (List Int)) (i : Int) : (List Int) := xs.getD i.toNat ([] : List Int)
theorem at_L1 {w : World} {A : Option Addr} {n : Nat} {xs : List (List Int)} (h : Kd.C (Kd.slice 5 (Kd.int .u8)) w A n xs) (i : Int) (h0 : 0 ≤ i) (h1 : i < n) : ∃ ad A0 c0, A = some ad ∧ w.cell? (ad.add i.toNat) = some (.slice A0 (rd_L1 xs i).length c0) ∧ (rd_L1 xs i).length ≤ c0 ∧ (Kd.int .u8).C w A0 (rd_L1 xs i).length (rd_L1 xs i) := by
  obtain ⟨ad, c, e, _, hK, hc0⟩ := Kd.C_get h ([] : List Int) i h0 h1
  have hc : ∀ j u, c[j]? = some u → w.cell? (ad.add (i.toNat * 1 + j)) = some u := hc0
  obtain ⟨A0, c0, rfl, l0, g0⟩ := hK
  exact ⟨ad, A0, c0, e, by have hq := hc 0 _ rfl; rwa [Nat.mul_one, Nat.add_zero] at hq, l0, g0⟩

end Go.Proofs.Ytcmgioafkacgdaa.PA
