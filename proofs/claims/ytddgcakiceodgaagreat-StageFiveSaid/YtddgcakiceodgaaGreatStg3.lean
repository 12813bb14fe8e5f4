/- A try left alone, step by step. No condition. -/
import Derived.Test.YtddgcakiceodgaaGreatStg2
import Derived.Test.YtddgcakiceodgaaGreatChk3
namespace Go.Proofs.YtddgcakiceodgaaGreat.EV
open Go Go.Proofs
set_option linter.unusedVariables false
set_option linter.unusedSimpArgs false
set_option maxRecDepth 100000
set_option pp.deepTerms false
set_option pp.deepTerms.threshold 20
theorem readR_encF {tag cur : Int} {l : List Item} (h : cgood tag cur l = true) : readR (sealN (encF tag cur l)) = (3, tag, cur, l, 0) := by
  have hv : versionN (encF tag cur l) = some 3 := rfl
  have h3 : 3 ≤ (encF tag cur l).length := by rw [encF_len]; omega
  have e1 : readR (sealN (encF tag cur l)) = (3, bodyV 3 (encF tag cur l)) := by
    unfold readR
    rw [openN_seal]
    dsimp only
    rw [hv]; rfl
  have e2 : openR (sealN (encF tag cur l)) = ((encF tag cur l).drop 3, 3, 0) := by
    unfold openR
    rw [openN_seal]
    dsimp only
    rw [hv]
  have e3 := getR_enc h
  unfold getR at e3
  rw [e2, if_neg (by simp), if_neg (by simp)] at e3
  rw [e1, bodyV_3 h3]
  rw [show bodyR ((encF tag cur l).drop 3) = (tag, cur, l, 0) from e3]
theorem faultsF_nil {cur : Int} {l : List Item} (h : goodF cur l = true) : faultsF cur l cur l = [] := by
  have := faults_same (c1 := cur) (l := l) h
  rw [decide_eq_true rfl, decide_eq_true rfl, Bool.and_self, decide_eq_true_eq] at this
  exact List.length_eq_zero_iff.1 (by omega)
theorem near_good {base cur : Int} {l : List Item} (h : goodF cur l = true) : Near base (l.map (ptI base)) := fun p hp => by
  obtain ⟨x, hx, rfl⟩ := List.mem_map.1 hp
  have := lnMay_facts (lnGood_may h x hx)
  have e : (ptI base x).v = base - x.lag := rfl
  rw [e]
  omega
theorem itP_inj {base : Int} {l m : List Item} (h : l.map (ptI base) = m.map (ptI base)) : l = m := by
  have := congrArg (List.map (itP base)) h
  rwa [map_itP_ptI, map_itP_ptI] at this
section
variable {cb tb : Nat} {h : Heap} {tg bs st why age : Int} {bv qv : Value} {f : Nat → Bool}
theorem PQ.modT {b lb : Nat} {v : Value} {tag base cur : Int} {l : List Pnt} {h' : Heap} (q : PQ h b lb v tag base cur l) (ht : h.get tb = .cells (tryL cb tg bs st why age bv qv f) 0) (m : Mod (fun j => j = tb) h h') : PQ h' b lb v tag base cur l := by
  refine q.mod m (fun e => ?_) (fun e => ?_) (fun j hj e => ?_)
  · have := q.gb; rw [e, ht] at this; unfold tryL at this; cases this
  · have := q.lq.gb; rw [e, ht] at this; unfold tryL at this; cases this
  · rw [e] at hj; exact ow_ne q.lq.ow ht (by decide) hj
theorem CQ.tne {qb lb mb : Nat} {v : Value} {tag base cur : Int} {l : List Pnt} {idle cage : Int} {c : Nat} (q : CQ h c qb lb mb v tag base cur l idle cage) (ht : h.get tb = .cells (tryL cb tg bs st why age bv qv f) 0) : c ≠ tb := fun e => by
  have := q.gb; rw [e, ht] at this; unfold tryL at this; cases this
theorem CQ.modT {qb lb mb : Nat} {v : Value} {tag base cur : Int} {l : List Pnt} {idle cage : Int} {c : Nat} {h' : Heap} (q : CQ h c qb lb mb v tag base cur l idle cage) (ht : h.get tb = .cells (tryL cb tg bs st why age bv qv f) 0) (m : Mod (fun j => j = tb) h h') : CQ h' c qb lb mb v tag base cur l idle cage := by
  refine ⟨Nat.lt_of_lt_of_le q.lt m.le, (m.old c q.lt (q.tne ht)).trans q.gb, Nat.lt_of_lt_of_le q.ml m.le, q.mp.mod q.ml m fun e => ?_, q.pq.modT ht m⟩
  exact q.mne ht e.symm
theorem OW.modT {b : List UInt8} {u : Value} {h' : Heap} (o : OW byteE 1 h u b) (ht : h.get tb = .cells (tryL cb tg bs st why age bv qv f) 0) (m : Mod (fun j => j = tb) h h') : OW byteE 1 h' u b :=
  o.mod m fun j hj e => by rw [e] at hj; exact ow_ne o ht (by decide) hj
theorem setM (h : Heap) (tb : Nat) (x : Blk) : Mod (fun j => j = tb) h (h.set tb x) := Mod.set (Mod.refl _ h) tb x fun _ => rfl
end
noncomputable def noF : Nat → Bool := fun _ => false
/-- after so many steps -/
structure KF (cb tb : Nat) (tag to base cur : Int) (l : List Item) (i : Nat) (h : Heap) : Prop where
  tl : tb < h.next
  sp : ∃ bv qv, h.get tb = .cells (tryL cb to base ((min i 5 : Nat) : Int) 0 0 bv qv noF) 0 ∧
    (∃ qb lb mb v bs, CQ h cb qb lb mb v (if i < 5 then tag else to) bs cur (l.map (ptI bs)) 0 0) ∧ (i < 2 → bv = noS) ∧ (2 ≤ i → OW byteE 1 h bv (sealN (encF tag cur l))) ∧ (i = 3 ∨ i = 4 → ∃ qb lb v, qv = ptr qb 0 ∧ PQ h qb lb v to base cur (l.map (ptI base)))
theorem KF.ext {cb tb : Nat} {tag to base cur : Int} {l : List Item} {i : Nat} {h h' : Heap} (k : KF cb tb tag to base cur l i h) (x : Ext h h') : KF cb tb tag to base cur l i h' := by
  obtain ⟨tl, bv, qv, h1, ⟨qb, lb, mb, v, bs, h2⟩, h3, h4, h5⟩ := k
  refine ⟨Nat.lt_of_lt_of_le tl x.le, bv, qv, (x.old tb tl).trans h1, ⟨qb, lb, mb, v, bs, h2.ext x⟩, h3, fun h => (h4 h).ext x, fun h => ?_⟩
  obtain ⟨qb, lb, v, e, p⟩ := h5 h
  exact ⟨qb, lb, v, e, p.ext x⟩
theorem kstep {cb tb : Nat} {tag to base cur : Int} {l : List Item} {i : Nat} {h : Heap} (k : KF cb tb tag to base cur l i h) (hg : cgood tag cur l = true) (hto : tgood to = true) (hb : bgood base = true) :
    WPo (EF Tryz.prog O0 10 [ptr tb 0] h) fun q => q.1 = .tuple ⟨[.int .i64 ((min (i + 1) 5 : Nat) : Int), .int .i64 0]⟩ ∧ KF cb tb tag to base cur l (i + 1) q.2 ∧ Mod (fun j => j = tb ∨ j = cb) h q.2 := by
  have hgf := (cgood_facts hg).2.2
  have hlen := lnGood_len hgf
  obtain ⟨tl, bv, qv, ht, ⟨qb, lb, mb, v, bs, cq⟩, hbv, hbo, hq⟩ := k
  have hn := fun b => near_good (base := b) hgf
  have orL : ∀ {a b : Heap}, Mod (fun j => j = tb) a b → Mod (fun j => j = tb ∨ j = cb) a b := fun m => m.mono fun _ _ e => .inl e
  have orR : ∀ {a b : Heap}, Mod (fun j => j = cb) a b → Mod (fun j => j = tb ∨ j = cb) a b := fun m => m.mono fun _ _ e => .inr e
  match i with
  | 0 =>
    refine step_ev ht (by decide) (by decide) (next1_ev cq ht) ?_
    rintro r hr
    rw [if_neg (by decide)] at hr
    subst hr
    refine ⟨0, 0, bv, qv, rfl, get_set_same _ _ _, fun _ => ⟨rfl, ⟨by simp only [next_set]; exact tl, bv, qv, by rw [get_set_same]; rfl, ⟨qb, lb, mb, v, bs, ?_⟩, fun _ => hbv (by decide), fun h => absurd h (by decide), fun h => absurd h (by omega)⟩, ?_⟩, fun h => absurd rfl h⟩
    · rw [set_set]
      exact cq.modT ht (setM _ _ _)
    · rw [set_set]
      exact orL (setM _ _ _)
  | 1 =>
    have N := next2_ev cq ht tl rfl (by rw [List.length_map]; omega) (hn bs) (by rw [map_itP_ptI]; exact hg)
    rw [map_itP_ptI] at N
    refine step_ev ht (by decide) (by decide) N ?_
    rintro ⟨w, h1⟩ ⟨u, e, m, g1, ou, fu⟩
    simp only at e m g1 ou fu
    subst e
    refine ⟨0, 0, u, qv, rfl, g1, fun _ => ⟨rfl, ⟨by simp only [next_set]; exact Nat.lt_of_lt_of_le tl m.le, u, qv, by rw [get_set_same]; rfl, ⟨qb, lb, mb, v, bs, (cq.modT ht m).modT g1 (setM _ _ _)⟩, fun h => absurd h (by decide), fun _ => ou.modT g1 (setM _ _ _), fun h => absurd h (by omega)⟩, (orL m).trans (orL (setM _ _ _))⟩, fun h => absurd rfl h⟩
  | 2 =>
    have hL : (sealN (encF tag cur l)).length < 600000 := by rw [sealN_len, encF_len]; omega
    have hr := readR_encF hg
    have N := next3_ev cq ht tl rfl (sealN (encF tag cur l)) (hbo (by decide)).sl hL (by rw [hr]; show l.length < _; omega) hto hb (by rw [hr]; exact fun _ => hgf)
    rw [hr] at N
    refine step_ev ht (by decide) (by decide) N ?_
    rintro ⟨w, h1⟩ ⟨e, m, u, g1, k⟩
    simp only at e m g1 k
    subst e
    obtain ⟨qb2, lb2, v2, e, p2, _⟩ := k trivial
    refine ⟨0, 0, bv, u, rfl, g1, fun _ => ⟨rfl, ⟨by simp only [next_set]; exact Nat.lt_of_lt_of_le tl m.le, bv, u, by rw [get_set_same]; rfl, ⟨qb, lb, mb, v, bs, (cq.modT ht m).modT g1 (setM _ _ _)⟩, fun h => absurd h (by decide), fun _ => ((hbo (by decide)).modT ht m).modT g1 (setM _ _ _), fun _ => ⟨qb2, lb2, v2, e, p2.modT g1 (setM _ _ _)⟩⟩, (orL m).trans (orL (setM _ _ _))⟩, fun h => absurd rfl h⟩
  | 3 =>
    obtain ⟨qb2, lb2, v2, e, p2⟩ := hq (.inl rfl)
    subst e
    have N := next4_ev cq p2 ht tl rfl (by rw [List.length_map]; omega) (hn bs) (by rw [List.length_map]; omega) (hn base)
    rw [map_itP_ptI, map_itP_ptI, faultsF_nil hgf, if_pos rfl] at N
    refine step_ev ht (by decide) (by decide) N ?_
    rintro ⟨w, h1⟩ ⟨e, x⟩
    simp only at e x
    subst e
    have g1 := (x.old tb tl).trans ht
    refine ⟨0, 0, bv, ptr qb2 0, rfl, g1, fun _ => ⟨rfl, ⟨by simp only [next_set]; exact Nat.lt_of_lt_of_le tl x.le, bv, ptr qb2 0, by rw [get_set_same]; rfl, ⟨qb, lb, mb, v, bs, (cq.ext x).modT g1 (setM _ _ _)⟩, fun h => absurd h (by decide), fun _ => ((hbo (by decide)).ext x).modT g1 (setM _ _ _), fun _ => ⟨qb2, lb2, v2, rfl, (p2.ext x).modT g1 (setM _ _ _)⟩⟩, (x.mod _).trans (orL (setM _ _ _))⟩, fun h => absurd rfl h⟩
  | 4 =>
    obtain ⟨qb2, lb2, v2, e, p2⟩ := hq (.inr rfl)
    subst e
    have N := next5_ev cq p2 ht tl rfl (by rw [List.length_map]; omega) (hn bs) (by rw [List.length_map]; omega) (hn base)
    rw [map_itP_ptI, map_itP_ptI] at N
    refine step_ev ht (by decide) (by decide) N ?_
    rintro ⟨w, h1⟩ k
    rw [if_pos ⟨rfl, rfl⟩] at k
    obtain ⟨e, m, g⟩ := k
    simp only at e m g
    subst e
    have g1 := (m.old tb tl fun e => cq.tne ht e.symm).trans ht
    have c1 : CQ h1 cb qb2 lb2 mb v2 to base cur (l.map (ptI base)) 0 0 := ⟨Nat.lt_of_lt_of_le cq.lt m.le, g, Nat.lt_of_lt_of_le cq.ml m.le, cq.mp.mod cq.ml m fun e => cq.mne cq.gb e.symm, p2.mod m (fun e => by have := p2.gb; rw [e, cq.gb] at this; cases this) (fun e => by have := p2.lq.gb; rw [e, cq.gb] at this; cases this) (fun j hj e => by rw [e] at hj; exact ow_ne p2.lq.ow cq.gb (by decide) hj)⟩
    have o1 : OW byteE 1 h1 bv (sealN (encF tag cur l)) := (hbo (by decide)).mod m fun j hj e => by rw [e] at hj; exact ow_ne (hbo (by decide)) cq.gb (by decide) hj
    refine ⟨0, 0, bv, ptr qb2 0, rfl, g1, fun _ => ⟨rfl, ⟨by simp only [next_set]; exact Nat.lt_of_lt_of_le tl m.le, bv, ptr qb2 0, by rw [get_set_same]; rfl, ⟨qb2, lb2, mb, v2, base, c1.modT g1 (setM _ _ _)⟩, fun h => absurd h (by decide), fun _ => o1.modT g1 (setM _ _ _), fun h => absurd h (by omega)⟩, (orR m).trans (orL (setM _ _ _))⟩, fun h => absurd rfl h⟩
  | i + 5 =>
    have e5 : min (i + 5) 5 = 5 := by omega
    have e6 : min (i + 5 + 1) 5 = 5 := by omega
    rw [e5] at ht
    rw [if_neg (by omega)] at cq
    refine ⟨_, stepOver_ev ht (by decide), by rw [e6], ⟨tl, bv, qv, by rw [e6]; exact ht, ⟨qb, lb, mb, v, bs, by rw [if_neg (by omega)]; exact cq⟩, fun h => absurd h (by omega), fun _ => hbo (by omega), fun h => absurd h (by omega)⟩, Mod.refl _ _⟩
end Go.Proofs.YtddgcakiceodgaaGreat.EV
