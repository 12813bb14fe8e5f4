/- What is told beside: numbers written (strconv.Itoa), by the kit's contract; the seat's 'awake'. No condition. -/
import Derived.Test.YtmkfdoomoeiibaaDoorSy7
import Derived.Test.YtmkfdoomoeiibaaDoorFc
import Derived.Test.YtmkfdoomoeiibaaDoorShelf
import Derived.Shelf.Strconv.Itoa4
namespace Go.Proofs.YtmkfdoomoeiibaaDoor.EV
open Go Go.Proofs
theorem itoa_calls (n : Int) (h0 : -9223372036854775808 ≤ n) (h1 : n ≤ 9223372036854775807) (w : World) (htab : tabOK w) :
    Calls Tryd.prog 19 #[.int .i64 n] w fun e w' => e = .returned (.string ⟨(Lib.itoa n).toArray⟩) ∧ ∃ k os, w' = Sort.grow (w.drewN k) os := Any.strconv_Itoa Tryd.lays171 n h0 h1 w htab
/-- digits, so that the kernel may reckon them -/
noncomputable def digF : Nat → Nat → List UInt8 → List UInt8
  | 0, u, acc => UInt8.ofNat (48 + u) :: acc
  | k + 1, u, acc => cnd (Nat.blt u 10) (UInt8.ofNat (48 + u) :: acc) (digF k (u / 10) (UInt8.ofNat (48 + u % 10) :: acc))
theorem digF_eq : ∀ (k u : Nat) (acc : List UInt8), u < 10 ^ (k + 1) → digF k u acc = Lib.decDigits u ++ acc
  | 0, u, acc, h => by
    rw [Lib.decDigits, dif_pos (by omega)]
    rfl
  | k + 1, u, acc, h => by
    unfold digF
    rw [Lib.decDigits]
    by_cases q : u < 10
    · have : Nat.blt u 10 = true := by rw [Nat.blt_eq]; exact q
      rw [this, cnd_true, dif_pos q]
      rfl
    · have : Nat.blt u 10 = false := by
        cases hb : Nat.blt u 10 with
        | false => rfl
        | true => rw [Nat.blt_eq] at hb; exact (q hb).elim
      rw [this, cnd_false, dif_neg q, digF_eq k (u / 10) _ (by rw [Nat.pow_succ] at h; omega), List.append_assoc]
      rfl
noncomputable def itoaB (n : Int) : List UInt8 := match n with
  | .ofNat u => digF 20 u []
  | .negSucc u => 45 :: digF 20 (u + 1) []
theorem itoaB_eq {n : Int} (h0 : -9223372036854775808 ≤ n) (h1 : n ≤ 9223372036854775807) : itoaB n = Lib.itoa n := by
  unfold itoaB Lib.itoa
  cases n with
  | ofNat u =>
    have e0 : (Int.ofNat u : Int) = (u : Int) := rfl
    rw [e0] at h0 h1 ⊢
    rw [if_neg (by omega)]
    show digF 20 u [] = _
    rw [digF_eq _ _ _ (by omega), List.append_nil]
    rfl
  | negSucc u =>
    rw [if_pos (by omega)]
    show 45 :: digF 20 (u + 1) [] = _
    rw [digF_eq _ _ _ (by omega), List.append_nil]
    rfl
noncomputable def itoaT (args : List Value) (h : Heap) : VH := match args with
  | [.int .i64 n] => cnd (decide (-9223372036854775808 ≤ n) && decide (n ≤ 9223372036854775807)) (some (strV (itoaB n), h)) none
  | _ => none
theorem grow_bel {w : World} (tw : TabW w) (k : Nat) (os : Array Obj) : Bel (baseAll w tw) w (Sort.grow (w.drewN k) os) :=
  ⟨rfl, rfl, rfl, by show w.heap.size ≤ (w.heap ++ os).size; rw [Array.size_append]; omega, fun i hi => by show (w.heap ++ os)[i]? = _; rw [Array.getElem?_append, if_pos (show i < w.heap.size from hi)]⟩
theorem itoaT_sound {args : List Value} {h : Heap} {v : Value} {h' : Heap} (hg : itoaT args h = some (v, h')) : SF1 Tryd.prog 19 args h v h' := by
  unfold itoaT at hg
  split at hg
  · rename_i n
    cases hr : (decide (-9223372036854775808 ≤ n) && decide (n ≤ 9223372036854775807)) with
    | false => rw [hr] at hg; cases hg
    | true =>
      rw [hr] at hg
      cases hg
      simp only [Bool.and_eq_true, decide_eq_true_eq] at hr
      refine ⟨⟨_, _, Tryd.func19, rfl⟩, fun M w0 w args' m H hl => ?_⟩
      have ha : args' = #[.int .i64 n] := by
        have := LR.flat0 hl rfl
        cases args'
        simp only at this
        rw [← this]
      subst ha
      refine CallsIn.mono (callsIn_wide.2 (itoa_calls n hr.1 hr.2 w H.tabW.2)) ?_
      rintro e' w' ⟨rfl, k, os, rfl⟩
      refine ⟨[], _, rfl, ?_, ?_⟩
      · rw [List.append_nil]
        exact H.quiet (grow_bel H.tabW k os)
      · rw [← itoaB_eq hr.1 hr.2]
        exact VR.of_flat1 _ rfl
  · cases hg
set_option maxRecDepth 100000 in
theorem no_gor : (Tryd.prog.funcs.toList.all fun fn => !(fn.name == "runtime.NumGoroutine")) = true := by decide +kernel
theorem hN : ∀ fn ∈ Tryd.prog.funcs.toList, fn.name ≠ "runtime.NumGoroutine" := fun fn hf e => by
  have := List.all_eq_true.1 no_gor fn hf
  rw [e] at this
  simp at this
theorem hmix : Tryd.prog.follows .mixedOrders = true := by kernel_rfl
theorem fint_calls (n : Int) (h0 : -9223372036854775808 ≤ n) (h1 : n ≤ 9223372036854775807) (w : World) (htab : tabOK w) :
    Calls Tryd.prog 20 #[.int .i64 n, .int .i64 10] w fun e w' => e = .returned (.string ⟨(Lib.itoa n).toArray⟩) ∧ ∃ k os, w' = Sort.grow (w.drewN k) os := Any.strconv_FormatInt_10 Tryd.lays173 n h0 h1 w htab
noncomputable def fintT (args : List Value) (h : Heap) : VH := match args with
  | [.int .i64 n, .int .i64 m] => cnd (decide (m = 10) && (decide (-9223372036854775808 ≤ n) && decide (n ≤ 9223372036854775807))) (some (strV (itoaB n), h)) none
  | _ => none
theorem fintT_sound {args : List Value} {h : Heap} {v : Value} {h' : Heap} (hg : fintT args h = some (v, h')) : SF1 Tryd.prog 20 args h v h' := by
  unfold fintT at hg
  split at hg
  · rename_i n b
    cases hr : (decide (b = 10) && (decide (-9223372036854775808 ≤ n) && decide (n ≤ 9223372036854775807))) with
    | false => rw [hr] at hg; cases hg
    | true =>
      rw [hr] at hg
      cases hg
      simp only [Bool.and_eq_true, decide_eq_true_eq] at hr
      obtain ⟨rfl, hr⟩ := hr
      refine ⟨⟨_, _, Tryd.func20, rfl⟩, fun M w0 w args' m H hl => ?_⟩
      have ha : args' = #[.int .i64 n, .int .i64 10] := by
        have := LR.flat0 hl rfl
        cases args'
        simp only at this
        rw [← this]
      subst ha
      refine CallsIn.mono (callsIn_wide.2 (fint_calls n hr.1 hr.2 w H.tabW.2)) ?_
      rintro e' w' ⟨rfl, k, os, rfl⟩
      refine ⟨[], _, rfl, ?_, ?_⟩
      · rw [List.append_nil]
        exact H.quiet (grow_bel H.tabW k os)
      · rw [← itoaB_eq hr.1 hr.2]
        exact VR.of_flat1 _ rfl
  · cases hg
noncomputable def O1 : Orc := fun f => if f = 19 then some itoaT else if f = 20 then some fintT else none
theorem O1_sound : SO Tryd.prog O1 := fun f g h args h0 v h' e => by
  unfold O1 at h
  split at h
  · rename_i q
    subst q
    cases h
    exact itoaT_sound e
  · split at h
    · rename_i q
      subst q
      cases h
      exact fintT_sound e
    · cases h
set_option maxRecDepth 100000 in
theorem awake_run : okT ((evq Tryd.prog O1 4000).F 7 [] ⟨0, .nil⟩) = true := by decide +kernel
end Go.Proofs.YtmkfdoomoeiibaaDoor.EV
