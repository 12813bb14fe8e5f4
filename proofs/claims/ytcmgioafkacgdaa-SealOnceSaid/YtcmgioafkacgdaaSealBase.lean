/-
  The checksum of package seal (layer 17): what the printed functions Of, Put, Get and the reference's Crc, Seal, Open answer, as plain functions on lists of numbers. No condition but that the lists are short and hold bytes.
-/
import Derived.Test.YtcmgioafkacgdaaPAx
import Derived.Lib.Bytes
namespace Go.Proofs.Ytcmgioafkacgdaa.Pure
open Go.RowKit Go.Proofs.Ytcmgioafkacgdaa.PA Go.Proofs.YtcmgioafkacgdaaW.PrintWords Go.Proofs.YtcmgioafkacgdaaW.PrintLast

/-- one bit of the seal's number, as seal.Of tells it -/
def stepS (c : Int) : Int := Go.bits .xor .u32 (c / 2) (Go.bits .and .u32 2197175160 ((-(Go.bits .and .u32 c 1)) % 4294967296))
def iter (n : Nat) (c : Int) : Int := match n with
  | 0 => c
  | n + 1 => iter n (stepS c)
def byteS (c x : Int) : Int := iter 8 (Go.bits .xor .u32 c (x % 4294967296))
def foldS (c : Int) : List Int → Int
  | [] => c
  | x :: l => foldS (byteS c x) l
def crc (l : List Int) : Int := Go.bits .xor .u32 4294967295 (foldS 4294967295 l)

theorem wrap64_in {x : Int} (h0 : 0 ≤ x) (h1 : x < 9223372036854775808) : wrap64 x = x := by unfold wrap64; omega

theorem bits_range (op : BinOp) (x y : Int) : 0 ≤ Go.bits op .u32 x y ∧ Go.bits op .u32 x y < 4294967296 := by
  unfold Go.bits
  simp only [IntKind.wrap_u32]
  omega
theorem xor_zero {x : Int} (h0 : 0 ≤ x) (h1 : x < 4294967296) : Go.bits .xor .u32 x 0 = x := by
  obtain ⟨n, rfl⟩ := Int.eq_ofNat_of_zero_le h0
  have hn : n < 4294967296 := by omega
  unfold Go.bits
  simp only [IntKind.wrap_u32]
  have e : BitVec.ofInt IntKind.u32.bits (n : Int) ^^^ BitVec.ofInt IntKind.u32.bits 0 = BitVec.ofInt IntKind.u32.bits (n : Int) := by
    rw [show BitVec.ofInt IntKind.u32.bits 0 = 0#IntKind.u32.bits from rfl, BitVec.xor_zero]
  rw [e, BitVec.toNat_ofInt, show (2 ^ IntKind.u32.bits : Nat) = 4294967296 from rfl]
  omega
theorem and_one {x : Int} (h0 : 0 ≤ x) (h1 : x < 4294967296) : Go.bits .and .u32 x 1 = x % 2 := by
  obtain ⟨n, rfl⟩ := Int.eq_ofNat_of_zero_le h0
  exact bits_mask .u32 32 (by decide) (fun n h0 h1 => by rw [IntKind.wrap_u32]; simp at h1; omega) 1 (by decide) n (by omega) (by simp; omega)
theorem stepS_range (c : Int) : 0 ≤ stepS c ∧ stepS c < 4294967296 := bits_range _ _ _
/-- .. and as the document's own text tells it -/
theorem stepS_eq {c : Int} (h0 : 0 ≤ c) (h1 : c < 4294967296) : stepS c = if Go.bits .and .u32 c 1 = 1 then Go.bits .xor .u32 (c / 2) 2197175160 else c / 2 := by
  unfold stepS
  rw [and_one h0 h1]
  rcases Int.emod_two_eq c with h | h
  · rw [h, if_neg (by decide)]
    have : Go.bits .and .u32 2197175160 ((-0) % 4294967296) = 0 := by decide +kernel
    rw [this]
    exact xor_zero (by omega) (by omega)
  · rw [h, if_pos rfl]
    have : Go.bits .and .u32 2197175160 ((-1) % 4294967296) = 2197175160 := by decide +kernel
    rw [this]
theorem iter_range (n : Nat) {c : Int} (h : 0 ≤ c ∧ c < 4294967296) : 0 ≤ iter n c ∧ iter n c < 4294967296 := by
  induction n generalizing c with
  | zero => exact h
  | succ n ih => exact ih (stepS_range c)
theorem byteS_range (c x : Int) : 0 ≤ byteS c x ∧ byteS c x < 4294967296 := iter_range 8 (bits_range _ _ _)
theorem foldS_range {c : Int} (h : 0 ≤ c ∧ c < 4294967296) (l : List Int) : 0 ≤ foldS c l ∧ foldS c l < 4294967296 := by
  induction l generalizing c with
  | nil => exact h
  | cons x l ih => exact ih (byteS_range c x)
theorem crc_range (l : List Int) : 0 ≤ crc l ∧ crc l < 4294967296 := bits_range _ _ _
theorem foldS_append (c : Int) (a b : List Int) : foldS c (a ++ b) = foldS (foldS c a) b := by
  induction a generalizing c with
  | nil => rfl
  | cons x a ih => exact ih _

theorem of_l1 (xs : List Int) (n i : Int) (d : Nat) : ∀ (c j r : Int), 0 ≤ j → j + d = 8 → Ev (fun k => seal_Of.l0 k (iter d c) xs n (wrap64 (i + 1))) r → Ev (fun k => seal_Of.l1 k c xs n i j) r := by
  induction d with
  | zero =>
    intro c j r h0 hj h
    refine Ev.step (f := fun k => seal_Of.l0 k c xs n (wrap64 (i + 1))) (fun k => ?_) h
    simp only [seal_Of.l1]
    rw [if_neg (by omega)]
  | succ d ih =>
    intro c j r h0 hj h
    refine Ev.step (f := fun k => seal_Of.l1 k (stepS c) xs n i (j + 1)) (fun k => ?_) (ih (stepS c) (j + 1) r (by omega) (by omega) h)
    simp only [seal_Of.l1]
    rw [if_pos (by omega), wrap64_in (by omega) (by omega)]
    rfl
theorem of_l0 (xs : List Int) (hn : xs.length ≤ 140737488351232) (d : Nat) : ∀ (c i : Int), 0 ≤ i → i + d = xs.length → Ev (fun k => seal_Of.l0 k c xs (xs.length : Int) i) (Go.bits .xor .u32 4294967295 (foldS c (xs.drop i.toNat))) := by
  induction d with
  | zero =>
    intro c i h0 hi
    refine Ev.step (f := fun _ => some _) (fun k => ?_) (Ev.now _)
    simp only [seal_Of.l0]
    rw [if_neg (by omega), List.drop_of_length_le (by omega)]
    rfl
  | succ d ih =>
    intro c i h0 hi
    have hlt : i.toNat < xs.length := by omega
    have e : xs.drop i.toNat = rd xs i :: xs.drop (i + 1).toNat := by
      rw [List.drop_eq_getElem_cons hlt]
      have : (i + 1).toNat = i.toNat + 1 := by omega
      rw [this]
      congr 1
      unfold rd
      rw [List.getD_eq_getElem?_getD, List.getElem?_eq_getElem hlt]
      rfl
    rw [e]
    have h := ih (byteS c (rd xs i)) (i + 1) (by omega) (by omega)
    refine Ev.step (f := fun k => seal_Of.l1 k (Go.bits .xor .u32 c ((rd xs i) % 4294967296)) xs (xs.length : Int) i 0) (fun k => ?_) (of_l1 xs _ i 8 _ 0 _ (by omega) (by omega) ?_)
    · simp only [seal_Of.l0]
      rw [if_pos (by omega), if_pos h0, if_pos (by omega)]
    · rw [wrap64_in (by omega) (by omega)]
      exact h
theorem of_is (xs : List Int) (hn : xs.length ≤ 140737488351232) : Ev (fun k => seal_Of.f k xs) (crc xs) := by
  have h := of_l0 xs hn xs.length 4294967295 0 (by omega) (by omega)
  exact h

theorem crc_l1 (xs : List Int) (i : Int) (d : Nat) : ∀ (c j r : Int), 0 ≤ c → c < 4294967296 → 0 ≤ j → j + d = 8 → Ev (fun k => stadholderref16_Crc.l0 k xs (iter d c) (wrap64 (i + 1))) r → Ev (fun k => stadholderref16_Crc.l1 k xs c i j) r := by
  induction d with
  | zero =>
    intro c j r c0 c1 h0 hj h
    refine Ev.step (f := fun k => stadholderref16_Crc.l0 k xs c (wrap64 (i + 1))) (fun k => ?_) h
    simp only [stadholderref16_Crc.l1]
    rw [if_neg (by omega)]
  | succ d ih =>
    intro c j r c0 c1 h0 hj h
    refine Ev.step (f := fun k => stadholderref16_Crc.l1 k xs (stepS c) i (j + 1)) (fun k => ?_) (ih (stepS c) (j + 1) r (stepS_range c).1 (stepS_range c).2 (by omega) (by omega) h)
    simp only [stadholderref16_Crc.l1]
    rw [if_pos (by omega), wrap64_in (by omega) (by omega), stepS_eq c0 c1]
    split <;> rfl
theorem crc_l0 (xs : List Int) (hn : xs.length ≤ 140737488351232) (d : Nat) : ∀ (c i : Int), 0 ≤ i → i + d = xs.length → Ev (fun k => stadholderref16_Crc.l0 k xs c i) (Go.bits .xor .u32 4294967295 (foldS c (xs.drop i.toNat))) := by
  induction d with
  | zero =>
    intro c i h0 hi
    refine Ev.step (f := fun _ => some _) (fun k => ?_) (Ev.now _)
    simp only [stadholderref16_Crc.l0]
    rw [if_neg (by omega), List.drop_of_length_le (by omega)]
    rfl
  | succ d ih =>
    intro c i h0 hi
    have hlt : i.toNat < xs.length := by omega
    have e : xs.drop i.toNat = rd xs i :: xs.drop (i + 1).toNat := by
      rw [List.drop_eq_getElem_cons hlt]
      have : (i + 1).toNat = i.toNat + 1 := by omega
      rw [this]
      congr 1
      unfold rd
      rw [List.getD_eq_getElem?_getD, List.getElem?_eq_getElem hlt]
      rfl
    rw [e]
    have h := ih (byteS c (rd xs i)) (i + 1) (by omega) (by omega)
    have hr := bits_range .xor c ((rd xs i) % 4294967296)
    refine Ev.step (f := fun k => stadholderref16_Crc.l1 k xs (Go.bits .xor .u32 c ((rd xs i) % 4294967296)) i 0) (fun k => ?_) (crc_l1 xs i 8 _ 0 _ hr.1 hr.2 (by omega) (by omega) ?_)
    · simp only [stadholderref16_Crc.l0]
      rw [if_pos (by omega), if_pos h0]
    · rw [wrap64_in (by omega) (by omega)]
      exact h
theorem crc_is (xs : List Int) (hn : xs.length ≤ 140737488351232) : Ev (fun k => stadholderref16_Crc.f k xs) (crc xs) := by
  have h := crc_l0 xs hn xs.length 4294967295 0 (by omega) (by omega)
  exact h
/-! ### texts of bytes -/
def Bytes (l : List Int) : Prop := ∀ x ∈ l, 0 ≤ x ∧ x < 256
theorem str_inj {a b : List Int} (ha : Bytes a) (hb : Bytes b) (h : (strOfNums a).toList = (strOfNums b).toList) : a = b := by
  have e : ∀ l : List Int, (strOfNums l).toList = l.map fun n => UInt8.ofNat n.toNat := by
    intro l
    rw [Lib.strOfNums_toList]
    rfl
  rw [e, e] at h
  have hl : a.length = b.length := by simpa using congrArg List.length h
  refine List.ext_getElem hl fun i h1 h2 => ?_
  have h3 : (a.map fun n => UInt8.ofNat n.toNat)[i]? = (b.map fun n => UInt8.ofNat n.toNat)[i]? := by rw [h]
  simp only [List.getElem?_map, List.getElem?_eq_getElem h1, List.getElem?_eq_getElem h2, Option.map_some, Option.some.injEq] at h3
  have h4 := congrArg UInt8.toNat h3
  have p := ha _ (List.getElem_mem h1)
  have q := hb _ (List.getElem_mem h2)
  simp only [UInt8.toNat_ofNat'] at h4
  omega
theorem str_eq {a b : List Int} (ha : Bytes a) (hb : Bytes b) : ((strOfNums a).toList = (strOfNums b).toList) ↔ a = b := ⟨str_inj ha hb, fun h => by rw [h]⟩

/-! ### the seal -/
def be4 (c : Int) : List Int := [c / 16777216 % 256, c / 65536 % 256, c / 256 % 256, c % 256]
def sealed (l : List Int) : List Int := l ++ be4 (crc l)
theorem be4_len (c : Int) : (be4 c).length = 4 := rfl
theorem be4_bytes (c : Int) : Bytes (be4 c) := by
  intro x hx
  simp only [be4, List.mem_cons, List.not_mem_nil, or_false] at hx
  omega
theorem sealed_len (l : List Int) : (sealed l).length = l.length + 4 := by simp [sealed, be4_len]
theorem sealed_bytes {l : List Int} (h : Bytes l) : Bytes (sealed l) := by
  intro x hx
  rcases List.mem_append.1 hx with hx | hx
  · exact h x hx
  · exact be4_bytes _ x hx
theorem bytes_take {l : List Int} (h : Bytes l) (n : Nat) : Bytes (l.take n) := fun x hx => h x (List.mem_of_mem_take hx)

theorem clone_is {l : List Int} (h : l.length ≤ 1000000) : bytes_Clone.f l = some l := by
  unfold bytes_Clone.f
  rw [if_pos (by omega)]
theorem equal_is {a b : List Int} (ha : Bytes a) (hb : Bytes b) : bytes_Equal.f a b = some (decide (a = b)) := by
  unfold bytes_Equal.f
  congr 1
  rw [Bool.eq_iff_iff, beq_iff_eq, decide_eq_true_iff]
  exact str_eq ha hb
theorem put_is {l : List Int} (h : l.length ≤ 1000000) : Ev (fun k => seal_Put.f k l) (sealed l) := by
  unfold seal_Put.f
  refine Ev.bind (of_is l (by omega)) ?_
  rw [clone_is h]
  simp only [Option.bind_some]
  refine Ev.congr (fun k => ?_) (Ev.now (sealed l))
  rw [if_pos (by simp; omega)]
  rfl
def opened (l : List Int) : List Int × Int :=
  if l.length < 4 then ([], 9) else if sealed (l.take (l.length - 4)) = l then (l.take (l.length - 4), 0) else ([], 9)
theorem get_is {l : List Int} (hb : Bytes l) (h : l.length ≤ 1000000) : Ev (fun k => seal_Get.f k l) (opened l) := by
  unfold seal_Get.f opened
  have w : wrap64 ((l.length : Int) - 4) = (l.length : Int) - 4 := by unfold wrap64; omega
  rw [w]
  by_cases c : l.length < 4
  · refine Ev.congr (fun k => ?_) (Ev.now _)
    rw [if_pos (by omega), if_pos c]
  · have e : ((l.length : Int) - 4).toNat = l.length - 4 := by omega
    have hl : (l.take (l.length - 4)).length ≤ 1000000 := by simp; omega
    have g : Ev (fun k => (seal_Put.f k (l.take (l.length - 4))).bind fun t113 => (bytes_Equal.f t113 l).bind fun t116 => if t116 = true then (bytes_Clone.f (l.take (l.length - 4))).bind fun t118 => some (t118, (0 : Int)) else some (([] : List Int), (9 : Int)))
        (if sealed (l.take (l.length - 4)) = l then (l.take (l.length - 4), 0) else ([], 9)) := by
      refine Ev.bind (put_is hl) ?_
      rw [equal_is (sealed_bytes (bytes_take hb _)) hb, clone_is hl]
      refine Ev.congr (fun k => ?_) (Ev.now _)
      simp only [Option.bind_some, decide_eq_true_iff]
      split <;> rfl
    rw [if_neg c]
    refine Ev.congr (fun k => ?_) g
    rw [if_neg (by omega), if_pos (by omega), if_pos (by omega), e]
theorem opened_sealed (l : List Int) : opened (sealed l) = (l, 0) := by
  unfold opened
  rw [sealed_len, if_neg (by omega)]
  have : (sealed l).take (l.length + 4 - 4) = l := by unfold sealed; simp
  rw [this, if_pos rfl]
theorem opened_ok {l p : List Int} {e : Int} (h : opened l = (p, e)) : (e = 0 ∧ sealed p = l) ∨ (e = 9 ∧ p = []) := by
  unfold opened at h
  split at h
  · cases h; right; exact ⟨rfl, rfl⟩
  · split at h
    · cases h; left; exact ⟨rfl, by assumption⟩
    · cases h; right; exact ⟨rfl, rfl⟩
theorem awake_is : Ev (fun k => stadholderlaw17_awake.f k) true := Ev.of stadholderlaw17_awake.mono (k := 400) (by decide +kernel)
theorem wf_bytes {l : List Int} (h : ∀ x ∈ l, (Lit.int .u8 x).wf = true) : Bytes l := by
  intro x hx
  have := h x hx
  simp [Lit.wf, IntKind.min, IntKind.max, IntKind.signed, IntKind.bits] at this
  omega
theorem seal_is {l : List Int} (h : l.length ≤ 1000000) : Ev (fun k => stadholderref16_Seal.f k l) (sealed l) := by
  unfold stadholderref16_Seal.f
  refine Ev.bind (crc_is l (by omega)) ?_
  refine Ev.congr (fun k => ?_) (Ev.now (sealed l))
  simp only [Option.bind_some, List.nil_append, List.length_nil]
  rw [if_pos (by omega), if_pos (by simp; omega)]
  rfl
theorem open_is {l : List Int} (hb : Bytes l) (h : l.length ≤ 1000000) : Ev (fun k => stadholderref16_Open.f k l) (opened l) := by
  unfold stadholderref16_Open.f opened
  have w : wrap64 ((l.length : Int) - 4) = (l.length : Int) - 4 := by unfold wrap64; omega
  rw [w]
  by_cases c : l.length < 4
  · refine Ev.congr (fun k => ?_) (Ev.now _)
    rw [if_pos (by omega), if_pos c]
  · have e : ((l.length : Int) - 4).toNat = l.length - 4 := by omega
    have hl : (l.take (l.length - 4)).length ≤ 1000000 := by simp; omega
    have g : Ev (fun k => (stadholderref16_Seal.f k (l.take (l.length - 4))).bind fun t136 => (if (strOfNums t136).toList = (strOfNums l).toList then ((some (([] : List Int) : List Int)).bind fun y139 => (if y139.length + (l.take (l.length - 4)).length < 140737488355328 then (some ((y139 ++ (l.take (l.length - 4))), (0 : Int))) else (none))) else (some (([] : List Int), (9 : Int)))))
        (if sealed (l.take (l.length - 4)) = l then (l.take (l.length - 4), 0) else ([], 9)) := by
      refine Ev.bind (seal_is hl) ?_
      refine Ev.congr (fun k => ?_) (Ev.now _)
      simp only [str_eq (sealed_bytes (bytes_take hb _)) hb, Option.bind_some, List.nil_append, List.length_nil]
      by_cases hs : sealed (l.take (l.length - 4)) = l
      · rw [if_pos hs, if_pos hs, if_pos (by omega)]
      · rw [if_neg hs, if_neg hs]
    rw [if_neg c]
    refine Ev.congr (fun k => ?_) g
    rw [if_neg (by omega), if_pos (by omega), if_pos (by omega), e]
end Go.Proofs.Ytcmgioafkacgdaa.Pure
