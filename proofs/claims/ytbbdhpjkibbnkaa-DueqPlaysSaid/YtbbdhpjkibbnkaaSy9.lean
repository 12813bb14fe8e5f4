/- SY, part 9: rounds whose variables lie in memory; iterators told by what they hand on. No condition. -/
import Derived.Test.YtbbdhpjkibbnkaaSy8
namespace Go.Proofs.Ytbbdhpjkibbnkaa.EV
set_option linter.unusedVariables false
set_option linter.unusedSimpArgs false
open Go Go.Proofs
section
variable {P : Program} {O : Orc} {bad : List Nat} {n : Nat}
theorem round_rule2 {l : Nat} {tm : Fr} {ps : List Tmp} {assign body : Code} {d : Nat} {args : List Value} {h hA : Heap} {Q : Value × Heap → Prop} {LB : LoopState → Option Code → Blk} (hLB : LB = fun s p => loopB0 n tm ps assign body d s p) (hl : h.get l = LB .ready none) (hlen : args.length = ps.length) {tm1 : Fr}
    (hAs : EC P O (some l) n assign ⟨setParams n (ps.zip args) tm, h, []⟩ = some (.normal, ⟨tm1, hA, []⟩)) (hl2 : hA.get l = LB .ready none)
    (hB : WPo (EC P O (some l) n body ⟨tm1, hA.set l (LB .busy none), []⟩) fun q => q.2.h.get l = LB .busy none ∧ ((q.1 = .normal ∧ Q (.bool true, q.2.h.set l (LB .ready none))) ∨ (q.1 = .ret ∧ Q (.bool false, q.2.h.set l (LB .done (some .ret)))) ∨ (∃ i, q.1 = .exit i ∧ Q (.bool false, q.2.h.set l (LB .done (some (.exit i))))))) :
    WPo (CALLV P O h args (yieldV l)) Q := by
  subst hLB
  obtain ⟨⟨x, ⟨tm2, h2, ms2⟩⟩, e, g, r⟩ := hB
  simp only at g r hl2 hl
  have e0 : Nat.beq args.length ps.length = true := by rw [hlen]; exact Nat.beq_refl _
  unfold CALLV
  show WPo (evRound (EVR P O) l args h) Q
  unfold evRound
  rw [hl]
  show WPo (gd (Nat.beq args.length ps.length) (ob (EC P O (some l) n assign ⟨setParams n (ps.zip args) tm, h, []⟩) _)) Q
  rw [e0, hAs]
  show WPo (ob (loopB (hA.get l)) _) Q
  rw [hl2]
  show WPo (ob (EC P O (some l) n body ⟨tm1, hA.set l (loopB0 n tm ps assign body d .busy none), []⟩) _) Q
  rw [e, ob_some]
  rcases r with ⟨rfl, r⟩ | ⟨rfl, r⟩ | ⟨i, rfl, r⟩
  · show WPo (ob (loopB (h2.get l)) _) Q
    rw [g]
    exact ⟨_, rfl, r⟩
  · show WPo (ob (loopB (h2.get l)) _) Q
    rw [g]
    exact ⟨_, rfl, r⟩
  · show WPo (ob (loopB (h2.get l)) _) Q
    rw [g]
    exact ⟨_, rfl, r⟩
/-- closed under what turns elsewhere -/
noncomputable def FrI {β : Type} (I : β → Heap → (Nat → Prop) → Prop) : Prop := ∀ i h h' W S, I i h W → Mod S h h' → (∀ j, W j → ¬ S j) → I i h' W
/-- what a call of the loop's body comes to -/
noncomputable def YP (I : Nat → Heap → (Nat → Prop) → Prop) (D : Heap → (Nat → Prop) → Prop) (i : Nat) (h : Heap) (W : Nat → Prop) (q : Value × Heap) : Prop :=
  ((q.1 = .bool true ∧ ∃ W', I (i + 1) q.2 W' ∧ ∀ j, W' j → W j ∨ h.next ≤ j) ∨ (q.1 = .bool false ∧ ∃ W', D q.2 W' ∧ ∀ j, W' j → W j ∨ h.next ≤ j)) ∧ Mod W h q.2
/-- boxes of a closure -/
noncomputable def BX (bx : List (Nat × Value)) (h : Heap) : Prop := ∀ p ∈ bx, h.get p.1 = .cells [p.2] 0 ∧ p.1 < h.next
theorem BX.mod {bx : List (Nat × Value)} {S : Nat → Prop} {a b : Heap} (h : BX bx a) (m : Mod S a b) (d : ∀ p ∈ bx, ¬ S p.1) : BX bx b := fun p hp => by
  obtain ⟨g, n⟩ := h p hp
  exact ⟨by rw [m.old _ n (d p hp)]; exact g, Nat.lt_of_lt_of_le n m.le⟩
theorem BX.ext {bx : List (Nat × Value)} {a b : Heap} (h : BX bx a) (x : Ext a b) : BX bx b := fun p hp => by
  obtain ⟨g, n⟩ := h p hp
  exact ⟨by rw [x.old _ n]; exact g, Nat.lt_of_lt_of_le n x.le⟩
theorem BX.push {bx : List (Nat × Value)} {a : Heap} (h : BX bx a) (B : Blk) : BX bx (a.push B) := h.ext ((Ext.refl a).push B)
theorem BX.one {A : Nat} {s : Value} {h : Heap} (g : h.get A = .cells [s] 0) (n : A < h.next) : BX [(A, s)] h := fun p hp => by
  rw [List.mem_singleton] at hp
  subst hp
  exact ⟨g, n⟩
theorem BX.cons {A : Nat} {s : Value} {bx : List (Nat × Value)} {h : Heap} (g : h.get A = .cells [s] 0) (n : A < h.next) (k : BX bx h) : BX ((A, s) :: bx) h := fun p hp => by
  rcases List.mem_cons.1 hp with rfl | hp
  · exact ⟨g, n⟩
  · exact k p hp
/-- it hands on each of L, once, in order, till it is told to stop -/
noncomputable def Iter (P : Program) (O : Orc) {α : Type} (arg : Nat → α → List Value) (g : FuncId) (y : List Value) (L : List α) (bx : List (Nat × Value)) (base : Heap) : Prop :=
  ∀ (yv : Value) (I : Nat → Heap → (Nat → Prop) → Prop) (D : Heap → (Nat → Prop) → Prop) (h0 : Heap) (W0 : Nat → Prop),
    cellsL yv = [yv] → FrI I → FrI (fun (_ : Unit) => D) → (∀ i h W, I i h W → ∀ j, W j → base.next ≤ j ∧ j < h.next ∧ ∀ p ∈ bx, j ≠ p.1) → Ext base h0 → BX bx h0 → I 0 h0 W0 →
    (∀ i x h W, L[i]? = some x → I i h W → Ext base h → BX bx h → WPo (CALLV P O h (arg i x) yv) (YP I D i h W)) →
    WPo (EF P O g (yv :: y) h0) fun q => ((∃ W, I L.length q.2 W ∧ ∀ j, W j → W0 j ∨ h0.next ≤ j) ∨ (∃ W, D q.2 W ∧ ∀ j, W j → W0 j ∨ h0.next ≤ j)) ∧ Mod W0 h0 q.2
/-- what may turn in a call: older blocks that are owned -/
theorem Mod.own {S T : Nat → Prop} {a b c : Heap} (h : Mod S a b) (k : Mod T b c) (hT : ∀ j, T j → S j ∨ a.next ≤ j) : Mod S a c := h.drop (k.mono fun j _ q => hT j q)
end
end Go.Proofs.Ytbbdhpjkibbnkaa.EV
