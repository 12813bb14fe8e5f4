/-
  SY, part 1: the evaluator with functions told beside (O), and its limit: what is answered with enough rounds; the limit goes by the same steps. No condition but that each function told beside is told soundly.
-/
import Derived.Test.YtddgcakiceodgaaGreatEv9
namespace Go.Proofs.YtddgcakiceodgaaGreat.EV
set_option linter.unusedVariables false
set_option linter.unusedSimpArgs false
open Go Go.RowKit

/-! ## what a step asks of the rest is finite -/
inductive Fact where
  | F (f : FuncId) (a : List Value) (h : Heap) (y : Value × Heap)
  | C (ro : Option Nat) (n : Nat) (c : Code) (st : St) (y : Exit × St)
noncomputable def Fact.ok (r : Rec) : Fact → Prop
  | .F f a h y => r.F f a h = some y
  | .C ro n c st y => r.C ro n c st = some y
noncomputable def AllOk (r : Rec) (L : List Fact) : Prop := ∀ x ∈ L, x.ok r
theorem AllOk.app {r : Rec} {A B : List Fact} (h : AllOk r (A ++ B)) : AllOk r A ∧ AllOk r B := ⟨fun x hx => h x (List.mem_append_left _ hx), fun x hx => h x (List.mem_append_right _ hx)⟩
theorem AllOk.mk {r : Rec} {A B : List Fact} (h : AllOk r A) (k : AllOk r B) : AllOk r (A ++ B) := fun x hx => (List.mem_append.1 hx).elim (h x) (k x)
noncomputable def Fin {α : Type} (φ : Rec → Option α) : Prop := ∀ r x, φ r = some x → ∃ L, AllOk r L ∧ ∀ r', AllOk r' L → φ r' = some x
noncomputable def FinB (φ : Rec → Bool) : Prop := ∀ r, φ r = true → ∃ L, AllOk r L ∧ ∀ r', AllOk r' L → φ r' = true

theorem Fin.const {α : Type} (x : Option α) : Fin fun _ => x := fun r y h => ⟨[], (fun _ hx => by cases hx), fun _ _ => h⟩
theorem FinB.const (b : Bool) : FinB fun _ => b := fun r h => ⟨[], (fun _ hx => by cases hx), fun _ _ => h⟩
theorem Fin.callF (f : FuncId) (a : List Value) (h : Heap) : Fin fun r => r.F f a h := fun r y e => ⟨[.F f a h y], (fun x hx => by rw [List.mem_singleton.1 hx]; exact e), fun r' k => k (.F f a h y) (List.mem_singleton.2 rfl)⟩
theorem Fin.callC (ro : Option Nat) (n : Nat) (c : Code) (st : St) : Fin fun r => r.C ro n c st := fun r y e => ⟨[.C ro n c st y], (fun x hx => by rw [List.mem_singleton.1 hx]; exact e), fun r' k => k (.C ro n c st y) (List.mem_singleton.2 rfl)⟩
theorem ob_some {α β : Type} (v : α) (f : α → Option β) : ob (some v) f = f v := rfl
theorem gd_true {β : Type} (x : Option β) : gd true x = x := rfl
theorem Fin.ob {α β : Type} {φ : Rec → Option α} {ψ : α → Rec → Option β} (h : Fin φ) (k : ∀ v, Fin (ψ v)) : Fin fun r => ob (φ r) (fun v => ψ v r) := fun r y e => by
  obtain ⟨v, e1, e2⟩ := ob_inv e
  obtain ⟨A, a1, a2⟩ := h r v e1
  obtain ⟨B, b1, b2⟩ := k v r y e2
  exact ⟨A ++ B, a1.mk b1, fun r' hr => by obtain ⟨c1, c2⟩ := hr.app; simp only [a2 r' c1, ob_some]; exact b2 r' c2⟩
theorem Fin.gd {β : Type} {φ : Rec → Option β} (b : Bool) (h : Fin φ) : Fin fun r => gd b (φ r) := by
  cases b with
  | false => exact Fin.const none
  | true => exact h
theorem Fin.cnd {β : Type} {φ ψ : Rec → Option β} (b : Bool) (h : Fin φ) (k : Fin ψ) : Fin fun r => cnd b (φ r) (ψ r) := by
  cases b with
  | false => exact k
  | true => exact h
theorem Fin.cndB {β : Type} {φ : Rec → Bool} {ψ : Rec → Option β} (h : FinB φ) (k : Fin ψ) : Fin fun r => EV.cnd (φ r) (ψ r) none := fun r y e0 => by
  have e : EV.cnd (φ r) (ψ r) none = some y := e0
  cases hb : φ r with
  | false => rw [hb] at e; cases e
  | true =>
    rw [hb, cnd_true] at e
    obtain ⟨A, a1, a2⟩ := h r hb
    obtain ⟨B, b1, b2⟩ := k r y e
    exact ⟨A ++ B, a1.mk b1, fun r' hr => by obtain ⟨c1, c2⟩ := hr.app; simp only [a2 r' c1, cnd_true]; exact b2 r' c2⟩
theorem FinB.and {φ ψ : Rec → Bool} (h : FinB φ) (k : FinB ψ) : FinB fun r => φ r && ψ r := fun r e => by
  rw [Bool.and_eq_true] at e
  obtain ⟨A, a1, a2⟩ := h r e.1
  obtain ⟨B, b1, b2⟩ := k r e.2
  exact ⟨A ++ B, a1.mk b1, fun r' hr => by obtain ⟨c1, c2⟩ := hr.app; simp only [a2 r' c1, b2 r' c2, Bool.and_self]⟩
theorem FinB.orC {φ : Rec → Bool} (b : Bool) (h : FinB φ) : FinB fun r => b || φ r := by
  cases b with
  | false => simpa using h
  | true => simpa using FinB.const true

section
variable {P : Program}
theorem fin_evRound (l : Nat) (args : List Value) (h : Heap) : Fin fun r => evRound r l args h :=
  Fin.ob (Fin.const _) fun L => Fin.gd _ (Fin.ob (Fin.callC _ _ _ _) fun q1 => Fin.gd _ (Fin.ob (Fin.const _) fun L1 => Fin.gd _ (Fin.ob (Fin.callC _ _ _ _) fun q2 => Fin.const _)))
theorem fin_evCallV (h : Heap) (args : List Value) (f : Value) : Fin fun r => evCallV r h args f := by
  cases f with
  | func f a b => cases f with
    | func g => exact Fin.callF _ _ _
    | yield l => exact Fin.gd _ (fin_evRound _ _ _)
    | _ => exact Fin.const none
  | _ => exact Fin.const none
theorem fin_evInvV (h : Heap) (args : List Value) (m : String) (v : Value) : Fin fun r => evInvV P r h args m v :=
  Fin.ob (Fin.const _) fun u => Fin.ob (Fin.const _) fun fx => Fin.callF _ _ _
theorem fin_evCall (c : Call) (st : St) : Fin fun r => evCall P r c st := by
  refine Fin.ob (Fin.const _) fun args => ?_
  cases c.callee with
  | builtin b => exact Fin.const _
  | value f => exact Fin.ob (Fin.const _) fun f => fin_evCallV _ _ _
  | invoke x m => exact Fin.ob (Fin.const _) fun v => fin_evInvV _ _ _ _
theorem fin_evO (o : Oper) (st : St) : Fin fun r => evO P r o st := by
  unfold evO
  cases o.op with
  | call c => exact fin_evCall c st
  | _ => exact Fin.const _
theorem fin_evOps (n : Nat) (all : List Oper) : ∀ (l : List Oper) (st : St), Fin fun r => evOps P r n all l st
  | [], st => Fin.const _
  | o :: rest, st => Fin.cnd _ (Fin.ob (fin_evO o st) fun vh => fin_evOps n all rest _) (fin_evOps n all rest _)
theorem fin_evTrace (n : Nat) (all : List Oper) : ∀ (l : List (Nat × Oper)) (st : St) (hs : List Heap) (rs : List Rd), Fin fun r => evTrace P r n all l st hs rs
  | [], st, hs, rs => Fin.const _
  | a :: rest, st, hs, rs => Fin.cnd _ (Fin.ob (fin_evO a.2 st) fun vh => fin_evTrace n all rest _ _ _) (fin_evTrace n all rest _ _ _)
theorem fin_rdOne (x : Rd) (ms : List Nat) (h : Heap) : FinB fun r => rdOne P r x ms h := fun r e0 => by
  have e : rdOne P r x ms h = true := e0
  unfold rdOne at e
  cases hv : evO P r x.o ⟨x.tm, h, ms⟩ with
  | none => rw [hv] at e; cases e
  | some vh =>
    rw [hv] at e
    obtain ⟨A, a1, a2⟩ := fin_evO x.o ⟨x.tm, h, ms⟩ r vh hv
    exact ⟨A, a1, fun r' hr => by unfold rdOne; simp only [a2 r' hr]; exact e⟩
theorem fin_rdAt (x : Rd) (ms : List Nat) : ∀ hs : List Heap, FinB fun r => rdAt P r x ms hs
  | [] => FinB.const true
  | h :: hs => FinB.and (fin_rdOne x ms h) (fin_rdAt x ms hs)
theorem fin_rdsOK (C : List (Nat × Oper)) (A : List Nat) (ms : List Nat) (hs : List Heap) : ∀ xs : List Rd, FinB fun r => rdsOK P r C A ms hs xs
  | [] => FinB.const true
  | x :: xs => FinB.and (FinB.orC _ (fin_rdAt x ms _)) (fin_rdsOK C A ms hs xs)
theorem fin_evRegion (n : Nat) (ops : List Oper) (draw : Bool) (st : St) : Fin fun r => evRegion P r n ops draw st := by
  refine Fin.cnd draw ?_ (fin_evOps n ops ops st)
  cases regOK P ops with
  | none => exact Fin.const none
  | some AC =>
    intro r y e
    simp only at e ⊢
    cases ht : evTrace P r n ops AC.2 st [st.h] [] with
    | none => rw [ht] at e; cases e
    | some q =>
      rw [ht] at e
      obtain ⟨A, a1, a2⟩ := fin_evTrace n ops AC.2 st [st.h] [] r q ht
      obtain ⟨B, b1, b2⟩ := Fin.cndB (fin_rdsOK AC.2 AC.1 st.ms q.2.1 q.2.2) (Fin.const (some q.1)) r y e
      exact ⟨A ++ B, a1.mk b1, fun r' hr => by obtain ⟨c1, c2⟩ := hr.app; simp only [a2 r' c1]; exact b2 r' c2⟩
theorem fin_thenC (ro : Option Nat) (n : Nat) (b : Code) (q : Exit × St) : Fin fun r => thenC r ro n b q := by
  unfold thenC
  cases q.1 with
  | normal => exact Fin.callC _ _ _ _
  | _ => exact Fin.const _
theorem evLoop_succ (r : Rec) (ro : Option Nat) (n : Nat) (c : Code) (j : Nat) (st : St) : evLoop r ro n c (j + 1) st = ob (r.C ro n c st) (fun q => loopC (evLoop r ro n c j) q) := rfl
theorem fin_evLoop (ro : Option Nat) (n : Nat) (c : Code) : ∀ (j : Nat) (st : St), Fin fun r => evLoop r ro n c j st
  | 0, st => Fin.const none
  | j + 1, st => by
    simp only [evLoop_succ]
    refine Fin.ob (Fin.callC _ _ _ _) fun q => ?_
    unfold loopC
    cases q.1 with
    | normal => exact fin_evLoop ro n c j q.2
    | _ => exact Fin.const _
theorem fin_rangeTail (ro : Option Nat) (n : Nat) (tm : Fr) (ms : List Nat) (q : Option Code × Heap) : Fin fun r => rangeTail r ro n tm ms q := by
  unfold rangeTail
  cases q.1 with
  | none => exact Fin.const _
  | some c => exact Fin.callC _ _ _ _
theorem fin_rangeC (ro : Option Nat) (n : Nat) (g : Value) (ps : List Tmp) (assign body : Code) (st : St) : Fin fun r => rangeC r ro n g ps assign body st := by
  cases g with
  | func f a b => cases f with
    | func f => exact Fin.ob (Fin.const _) fun q => Fin.ob (Fin.callF _ _ _) fun vh => Fin.ob (Fin.const _) fun e => fin_rangeTail _ _ _ _ _
    | _ => exact Fin.const none
  | _ => exact Fin.const none
theorem fin_stepC (ro : Option Nat) (n : Nat) (c : Code) (st : St) : Fin fun r => stepC P r ro n c st := by
  unfold stepC
  cases c with
  | region id ops draw => exact Fin.ob (fin_evRegion _ _ _ _) fun _ => Fin.const _
  | seq a b => exact Fin.ob (Fin.callC _ _ _ _) fun q => fin_thenC _ _ _ _
  | cond c a b => exact Fin.ob (Fin.const _) fun v => Fin.ob (Fin.const _) fun t => Fin.callC _ _ _ _
  | block id body => exact Fin.ob (Fin.callC _ _ _ _) fun q => Fin.const _
  | loop body => exact fin_evLoop _ _ _ _ _
  | scope body => exact Fin.ob (Fin.callC _ _ _ _) fun q => Fin.const _
  | rangeFunc g ps assign body => exact Fin.ob (Fin.const _) fun g => fin_rangeC _ _ _ _ _ _ _
  | _ => exact Fin.const _
theorem fin_stepF (f : FuncId) (args : List Value) (h : Heap) : Fin fun r => stepF P r f args h :=
  Fin.ob (Fin.const _) fun fn => Fin.ob (Fin.const _) fun c => Fin.ob (Fin.callC _ _ _ _) fun q => Fin.const _
end

/-! ## functions told beside -/
abbrev Orc := FuncId → Option (List Value → Heap → VH)
noncomputable def stepO (P : Program) (O : Orc) (r : Rec) (f : FuncId) (args : List Value) (h : Heap) : VH := match O f with
  | some g => g args h
  | none => stepF P r f args h
noncomputable def evq (P : Program) (O : Orc) : Nat → Rec
  | 0 => ⟨fun _ _ _ => none, fun _ _ _ _ => none⟩
  | k + 1 => ⟨stepO P O (evq P O k), stepC P (evq P O k)⟩
/-- told soundly: one answer -/
noncomputable def SF1 (P : Program) (f : FuncId) (args : List Value) (h : Heap) (v : Value) (h' : Heap) : Prop :=
  (∃ fn c, P.funcs[f]? = some fn ∧ fn.body = some c) ∧ ∀ (M : List Loc) (w0 : Base) (w : World) (args' : Array Value) (n : Nat), HR M w0 h w → LR M args args'.toList → CallsIn (FW none) n P f args' w (PostV M w0 h' v)
noncomputable def SO (P : Program) (O : Orc) : Prop := ∀ f g, O f = some g → ∀ args h v h', g args h = some (v, h') → SF1 P f args h v h'
theorem fin_stepO {P : Program} (O : Orc) (f : FuncId) (args : List Value) (h : Heap) : Fin fun r => stepO P O r f args h := by
  unfold stepO
  cases O f with
  | none => exact fin_stepF f args h
  | some g => exact Fin.const _

section
variable {P : Program} {O : Orc}
theorem evq_sound (hN : ∀ fn ∈ P.funcs.toList, fn.name ≠ "runtime.NumGoroutine") (hmix : P.follows .mixedOrders = true) (hO : SO P O) : ∀ k, SF P (evq P O k) ∧ SC P (evq P O k)
  | 0 => ⟨(fun f args h v h' he => by cases he), (fun ro nn c st e st' he => by cases he)⟩
  | k + 1 => by
    obtain ⟨hF, hC⟩ := evq_sound hN hmix hO k
    refine ⟨fun f args h v h' he => ?_, fun ro nn c st e st' he => step_sound hN hmix hF hC ro nn c st e st' he⟩
    have he' : stepO P O (evq P O k) f args h = some (v, h') := he
    unfold stepO at he'
    cases ho : O f with
    | none => rw [ho] at he'; exact stepF_sound hC f args h v h' he'
    | some g => rw [ho] at he'; exact hO f g ho args h v h' he'

noncomputable def LeR (r r' : Rec) : Prop := ∀ x : Fact, x.ok r → x.ok r'
theorem Fin.le {α : Type} {φ : Rec → Option α} (h : Fin φ) {r r' : Rec} (k : LeR r r') {x : α} (e : φ r = some x) : φ r' = some x := by
  obtain ⟨L, l1, l2⟩ := h r x e
  exact l2 r' fun y hy => k y (l1 y hy)
theorem evq_le : ∀ k, LeR (evq P O k) (evq P O (k + 1))
  | 0 => fun x h => by cases x <;> cases h
  | k + 1 => fun x h => by
    cases x with
    | F f a h0 y => exact (fin_stepO O f a h0).le (evq_le k) h
    | C ro n c st y => exact (fin_stepC ro n c st).le (evq_le k) h
theorem evq_mono {j k : Nat} (h : j ≤ k) : LeR (evq P O j) (evq P O k) := by
  induction h with
  | refl => exact fun x h => h
  | step _ ih => exact fun x h => evq_le _ x (ih x h)

open Classical in
noncomputable def EF (P : Program) (O : Orc) (f : FuncId) (args : List Value) (h : Heap) : VH := if hx : ∃ y, ∃ k, (evq P O k).F f args h = some y then some (Classical.choose hx) else none
open Classical in
noncomputable def EC (P : Program) (O : Orc) (ro : Option Nat) (n : Nat) (c : Code) (st : St) : CR := if hx : ∃ y, ∃ k, (evq P O k).C ro n c st = some y then some (Classical.choose hx) else none
noncomputable def EVR (P : Program) (O : Orc) : Rec := ⟨EF P O, EC P O⟩

theorem EF_iff {f : FuncId} {args : List Value} {h : Heap} {y : Value × Heap} : EF P O f args h = some y ↔ ∃ k, (evq P O k).F f args h = some y := by
  constructor
  · intro e
    unfold EF at e
    split at e
    · rename_i hx
      cases e
      exact Classical.choose_spec hx
    · cases e
  · rintro ⟨k, hk⟩
    have hx : ∃ y, ∃ k, (evq P O k).F f args h = some y := ⟨y, k, hk⟩
    unfold EF
    rw [dif_pos hx]
    obtain ⟨j, hj⟩ := Classical.choose_spec hx
    have a := evq_mono (P := P) (O := O) (Nat.le_max_left k j) (.F f args h y) hk
    have b := evq_mono (P := P) (O := O) (Nat.le_max_right k j) (.F f args h (Classical.choose hx)) hj
    exact (b.symm.trans a)
theorem EC_iff {ro : Option Nat} {n : Nat} {c : Code} {st : St} {y : Exit × St} : EC P O ro n c st = some y ↔ ∃ k, (evq P O k).C ro n c st = some y := by
  constructor
  · intro e
    unfold EC at e
    split at e
    · rename_i hx
      cases e
      exact Classical.choose_spec hx
    · cases e
  · rintro ⟨k, hk⟩
    have hx : ∃ y, ∃ k, (evq P O k).C ro n c st = some y := ⟨y, k, hk⟩
    unfold EC
    rw [dif_pos hx]
    obtain ⟨j, hj⟩ := Classical.choose_spec hx
    have a := evq_mono (P := P) (O := O) (Nat.le_max_left k j) (.C ro n c st y) hk
    have b := evq_mono (P := P) (O := O) (Nat.le_max_right k j) (.C ro n c st (Classical.choose hx)) hj
    exact (b.symm.trans a)
theorem ok_iff {x : Fact} : x.ok (EVR P O) ↔ ∃ k, x.ok (evq P O k) := by
  cases x with
  | F f a h y => exact EF_iff
  | C ro n c st y => exact EC_iff
theorem allOk_ex : ∀ {L : List Fact}, AllOk (EVR P O) L → ∃ k, AllOk (evq P O k) L
  | [], _ => ⟨0, fun _ h => by cases h⟩
  | x :: L, h => by
    obtain ⟨j, hj⟩ := allOk_ex (L := L) fun y hy => h y (List.mem_cons_of_mem _ hy)
    obtain ⟨k, hk⟩ := ok_iff.1 (h x (List.mem_cons_self ..))
    refine ⟨max j k, fun y hy => ?_⟩
    rcases List.mem_cons.1 hy with rfl | hy
    · exact evq_mono (Nat.le_max_right j k) _ hk
    · exact evq_mono (Nat.le_max_left j k) _ (hj y hy)
theorem Fin.lim {α : Type} {φ : Rec → Option α} (h : Fin φ) {x : α} : φ (EVR P O) = some x ↔ ∃ k, φ (evq P O k) = some x := by
  constructor
  · intro e
    obtain ⟨L, l1, l2⟩ := h _ x e
    obtain ⟨k, hk⟩ := allOk_ex l1
    exact ⟨k, l2 _ hk⟩
  · rintro ⟨k, hk⟩
    obtain ⟨L, l1, l2⟩ := h _ x hk
    exact l2 _ fun y hy => ok_iff.2 ⟨k, l1 y hy⟩
theorem EF_eq (f : FuncId) (args : List Value) (h : Heap) : EF P O f args h = stepO P O (EVR P O) f args h := by
  apply Option.ext
  intro y
  rw [EF_iff, (fin_stepO O f args h).lim]
  constructor
  · rintro ⟨k, hk⟩
    cases k with
    | zero => cases hk
    | succ k => exact ⟨k, hk⟩
  · rintro ⟨k, hk⟩
    exact ⟨k + 1, hk⟩
theorem EC_eq (ro : Option Nat) (n : Nat) (c : Code) (st : St) : EC P O ro n c st = stepC P (EVR P O) ro n c st := by
  apply Option.ext
  intro y
  rw [EC_iff, (fin_stepC ro n c st).lim]
  constructor
  · rintro ⟨k, hk⟩
    cases k with
    | zero => cases hk
    | succ k => exact ⟨k, hk⟩
  · rintro ⟨k, hk⟩
    exact ⟨k + 1, hk⟩
theorem EF_sound (hN : ∀ fn ∈ P.funcs.toList, fn.name ≠ "runtime.NumGoroutine") (hmix : P.follows .mixedOrders = true) (hO : SO P O) {f : FuncId} {args : List Value} {h : Heap} {v : Value} {h' : Heap} (he : EF P O f args h = some (v, h')) : SF1 P f args h v h' := by
  obtain ⟨k, hk⟩ := EF_iff.1 he
  exact (evq_sound hN hmix hO k).1 f args h v h' hk
end
attribute [irreducible] EF EC
end Go.Proofs.YtddgcakiceodgaaGreat.EV
