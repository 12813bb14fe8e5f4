/- SY, part 9: rounds whose variables lie in memory; iterators told by what they hand on. No condition. -/
import Derived.Test.YtchclddjifhcaaaSy8
namespace Go.Proofs.Ytchclddjifhcaaa.EV
set_option linter.unusedVariables false
set_option linter.unusedSimpArgs false
open Go Go.Proofs
section
variable {P : Program} {O : Orc} {bad : List Nat} {n : Nat}
theorem round_rule2 {l : Nat} {tm : Fr} {ps : List Tmp} {assign body : Code} {d : Nat} {args : List Value} {h hA : Heap} {Q : Value × Heap → Prop} {LB : LoopState → Option Code → Blk} (hLB : LB = fun s p => loopB0 n tm ps assign body d s p) (hl : h.get l = LB .ready none) (hlen : args.length = ps.length) {tm1 : Fr}
    (hAs : EC P O (some l) n assign ⟨setParams n (ps.zip args) tm, h, []⟩ = some (.normal, ⟨tm1, hA, []⟩)) (hl2 : hA.get l = LB .ready none)
    (hB : WPo (EC P O (some l) n body ⟨tm1, hA.set l (LB .busy none), []⟩) fun q => q.2.h.get l = LB .busy none ∧ ((q.1 = .normal ∧ Q (.bool true, q.2.h.set l (LB .ready none))) ∨ (q.1 = .ret ∧ Q (.bool false, q.2.h.set l (LB .done (some .ret)))) ∨ (∃ i, q.1 = .exit i ∧ Q (.bool false, q.2.h.set l (LB .done (some (.exit i))))))) :
    WPo (CALLV P O h args (yieldV l)) Q := by
  subst hLB
  obtain ⟨⟨x, ⟨tm2, h2, ms2⟩⟩, e, g, r⟩ := hB
  simp only at g r hl2 hl
  have e0 : Nat.beq args.length ps.length = true := by rw [hlen]; exact Nat.beq_refl _
  unfold CALLV
  show WPo (evRound (EVR P O) l args h) Q
  unfold evRound
  rw [hl]
  show WPo (gd (Nat.beq args.length ps.length) (ob (EC P O (some l) n assign ⟨setParams n (ps.zip args) tm, h, []⟩) _)) Q
  rw [e0, hAs]
  show WPo (ob (loopB (hA.get l)) _) Q
  rw [hl2]
  show WPo (ob (EC P O (some l) n body ⟨tm1, hA.set l (loopB0 n tm ps assign body d .busy none), []⟩) _) Q
  rw [e, ob_some]
  rcases r with ⟨rfl, r⟩ | ⟨rfl, r⟩ | ⟨i, rfl, r⟩
  · show WPo (ob (loopB (h2.get l)) _) Q
    rw [g]
    exact ⟨_, rfl, r⟩
  · show WPo (ob (loopB (h2.get l)) _) Q
    rw [g]
    exact ⟨_, rfl, r⟩
  · show WPo (ob (loopB (h2.get l)) _) Q
    rw [g]
    exact ⟨_, rfl, r⟩
/-- closed under what turns elsewhere -/
noncomputable def FrI {β : Type} (I : β → Heap → (Nat → Prop) → Prop) : Prop := ∀ i h h' W S, I i h W → Mod S h h' → (∀ j, W j → ¬ S j) → I i h' W
/-- what a call of the loop's body comes to -/
noncomputable def YP (I : Nat → Heap → (Nat → Prop) → Prop) (D : Heap → (Nat → Prop) → Prop) (i : Nat) (h : Heap) (W : Nat → Prop) (q : Value × Heap) : Prop :=
  ((q.1 = .bool true ∧ ∃ W', I (i + 1) q.2 W' ∧ ∀ j, W' j → W j ∨ h.next ≤ j) ∨ (q.1 = .bool false ∧ ∃ W', D q.2 W' ∧ ∀ j, W' j → W j ∨ h.next ≤ j)) ∧ Mod W h q.2
/-- it hands on each of L, once, in order, till it is told to stop -/
noncomputable def Iter (P : Program) (O : Orc) {α : Type} (arg : Nat → α → List Value) (g : FuncId) (y : List Value) (L : List α) (base : Heap) : Prop :=
  ∀ (yv : Value) (I : Nat → Heap → (Nat → Prop) → Prop) (D : Heap → (Nat → Prop) → Prop) (h0 : Heap) (W0 : Nat → Prop),
    FrI I → FrI (fun (_ : Unit) => D) → (∀ i h W, I i h W → ∀ j, W j → base.next ≤ j ∧ j < h.next) → Ext base h0 → I 0 h0 W0 →
    (∀ i x h W, L[i]? = some x → I i h W → WPo (CALLV P O h (arg i x) yv) (YP I D i h W)) →
    WPo (EF P O g (yv :: y) h0) fun q => ((∃ W, I L.length q.2 W ∧ ∀ j, W j → W0 j ∨ h0.next ≤ j) ∨ (∃ W, D q.2 W ∧ ∀ j, W j → W0 j ∨ h0.next ≤ j)) ∧ Mod W0 h0 q.2
theorem Iter.ext {α : Type} {arg : Nat → α → List Value} {g : FuncId} {y : List Value} {L : List α} {a b : Heap} (h : Iter P O arg g y L a) (x : Ext a b) : Iter P O arg g y L b := fun yv I D h0 W0 f1 f2 f3 e i0 hy =>
  h yv I D h0 W0 f1 f2 (fun i h W k j hj => ⟨Nat.le_trans x.le (f3 i h W k j hj).1, (f3 i h W k j hj).2⟩) (x.trans e) i0 hy
/-- what may turn in a call: older blocks that are owned -/
theorem Mod.own {S T : Nat → Prop} {a b c : Heap} (h : Mod S a b) (k : Mod T b c) (hT : ∀ j, T j → S j ∨ a.next ≤ j) : Mod S a c := h.drop (k.mono fun j _ q => hT j q)
end
end Go.Proofs.Ytchclddjifhcaaa.EV
