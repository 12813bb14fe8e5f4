/-
  SY, part 5: closed functions, told beside: what the evaluator answers out of nothing, they answer anywhere, and leave the memory as it is. No condition.
-/
import Derived.Test.YtddgcakiceodgaaGreatSy4
namespace Go.Proofs.YtddgcakiceodgaaGreat.EV
set_option linter.unusedVariables false
set_option linter.unusedSimpArgs false
open Go Go.RowKit

theorem HR.quiet {M : List Loc} {w0 : Base} {h : Heap} {w w' : World} (H : HR M w0 h w) (k : Bel (baseAll w) w w') : HR M w0 h w' :=
  ⟨H.len, H.live, fun b l hl => by
    by_cases d : h.get b = .dead
    · rw [d]; trivial
    · exact (H.blk b l hl).heap (k.block l.blk ((H.blk b l hl).lt d)), H.inj,
   H.bel.trans ⟨k.os, k.tape, k.output, k.size, fun i hi => k.block i (Nat.lt_of_lt_of_le (w0.lt i hi) H.bel.size)⟩⟩

noncomputable def okT : Option (Value × Heap) → Bool
  | some (.bool true, _) => true
  | _ => false
theorem okT_inv {x : Option (Value × Heap)} (h : okT x = true) : ∃ h', x = some (.bool true, h') := by
  unfold okT at h
  split at h
  · exact ⟨_, rfl⟩
  · cases h
noncomputable def closedT (args : List Value) (h : Heap) : VH := match args with
  | [] => some (.bool true, h)
  | _ => none
theorem closed_sound {P : Program} (hN : ∀ fn ∈ P.funcs.toList, fn.name ≠ "runtime.NumGoroutine") (hmix : P.follows .mixedOrders = true) {k : Nat} {f : FuncId} (he : okT ((ev P k).F f [] ⟨0, .nil⟩) = true) {args : List Value} {h : Heap} {v : Value} {h' : Heap} (hg : closedT args h = some (v, h')) : SF1 P f args h v h' := by
  obtain ⟨h2, e⟩ := okT_inv he
  cases args with
  | cons _ _ => cases hg
  | nil =>
    cases hg
    have hs := (ev_sound hN hmix k).1 _ _ _ _ _ e
    refine ⟨hs.1, fun M w0 w args' n H hl => ?_⟩
    have ha : args' = #[] := by
      have := hl.nil_inv
      cases args'
      simp_all
    subst ha
    refine CallsIn.mono (hs.2 [] (baseAll w) w #[] n (HR.start w) (LR.nil _)) ?_
    rintro e' w' ⟨N, v', rfl, H2, hv⟩
    rw [bool_inv hv]
    exact ⟨[], _, rfl, by rw [List.append_nil]; exact H.quiet H2.bel, .bool _⟩
noncomputable def fl (x : Value) : Bool := flat x && flat1 x
theorem LR.flat0 {M : List Loc} : ∀ {a b : List Value}, LR M a b → a.all fl = true → a = b
  | [], b, h, _ => h.nil_inv.symm
  | x :: a, b, h, hf => by
    obtain ⟨y, r, e, k, l⟩ := h.cons_inv
    simp only [List.all_cons, Bool.and_eq_true, fl] at hf
    rw [k.flat_eq hf.1.1] at e
    rw [e, LR.flat0 l hf.2]
theorem LR.of_flat0 (M : List Loc) : ∀ {a : List Value}, a.all fl = true → LR M a a
  | [], _ => LR.nil _
  | x :: a, hf => by
    simp only [List.all_cons, Bool.and_eq_true] at hf
    have h1 := hf.1
    simp only [fl, Bool.and_eq_true] at h1
    exact LR.cons (VR.of_flat1 M h1.2) (LR.of_flat0 M hf.2)
/-- a function of plain values, run out of nothing: it answers so anywhere, and leaves the memory as it is -/
theorem pure_sound {P : Program} {O : Orc} (hN : ∀ fn ∈ P.funcs.toList, fn.name ≠ "runtime.NumGoroutine") (hmix : P.follows .mixedOrders = true) (hO : SO P O) {f : FuncId} {args : List Value} {v : Value} {h2 : Heap} (he : EF P O f args ⟨0, .nil⟩ = some (v, h2)) (ha : args.all fl = true) (hv : fl v = true) (h : Heap) : SF1 P f args h v h := by
  have hs := EF_sound hN hmix hO he
  refine ⟨hs.1, fun M w0 w args' n H hl => ?_⟩
  have e0 := hl.flat0 ha
  have hl0 : LR [] args args'.toList := e0 ▸ LR.of_flat0 [] ha
  refine CallsIn.mono (hs.2 [] (baseAll w) w args' n (HR.start w) hl0) ?_
  rintro e' w' ⟨N, v', rfl, H2, hv'⟩
  simp only [fl, Bool.and_eq_true] at hv
  rw [hv'.flat_eq hv.1]
  exact ⟨[], v, rfl, by rw [List.append_nil]; exact H.quiet H2.bel, VR.of_flat1 _ hv.2⟩
end Go.Proofs.YtddgcakiceodgaaGreat.EV
