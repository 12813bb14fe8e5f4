/- A row of bytes as numbers is a row of bytes. No condition. -/
import Derived.Test.YtlandojofjkeaaaSy7
namespace Go.Proofs.Ytlandojofjkeaaa.EV
open Go Go.Proofs
theorem u8_wf {z : Int} (h : (Lit.int .u8 z).wf = true) : 0 ≤ z ∧ z < 256 := by
  have h1 : (decide (0 ≤ z) && decide (z < 256)) = true := by
    have : (Lit.int .u8 z).wf = (decide (IntKind.u8.min ≤ z) && decide (z ≤ IntKind.u8.max)) := rfl
    rw [this] at h
    simp only [Bool.and_eq_true, decide_eq_true_eq] at h ⊢
    have e1 : IntKind.u8.min = 0 := rfl
    have e2 : IntKind.u8.max = 255 := rfl
    omega
  simp only [Bool.and_eq_true, decide_eq_true_eq] at h1
  exact h1
noncomputable def byteZ (z : Int) : UInt8 := UInt8.ofNat z.toNat
theorem byteZ_toNat {z : Int} (h : 0 ≤ z ∧ z < 256) : ((byteZ z).toNat : Int) = z := by
  unfold byteZ
  rw [UInt8.toNat_ofNat']
  omega
theorem SL_bytes {h : Heap} {v : Value} {l : List Int} (hs : SL (intE .u8) 1 h v l) (hw : ∀ z ∈ l, (Lit.int .u8 z).wf = true) : SL byteE 1 h v (l.map byteZ) := by
  cases hs with
  | nil => exact .nil
  | mk b o c l cs hb hc hl hx hcap hq =>
    rw [← List.length_map (f := byteZ)]
    refine .mk b o c (l.map byteZ) cs hb hc (by rw [List.length_map]; exact hl) (fun i x hi => ?_) (by rw [List.length_map]; exact hcap) hq
    rw [List.getElem?_map] at hi
    cases hz : l[i]? with
    | none => rw [hz] at hi; cases hi
    | some z =>
      rw [hz] at hi
      cases hi
      rw [hx i z hz]
      unfold intE byteE
      rw [byteZ_toNat (u8_wf (hw z (List.mem_of_getElem? hz)))]
end Go.Proofs.Ytlandojofjkeaaa.EV
