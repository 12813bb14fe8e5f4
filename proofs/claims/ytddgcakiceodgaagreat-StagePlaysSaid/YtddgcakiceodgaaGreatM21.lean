/- StagePlays: a Step, by cases. No condition. Contract: the reference's Bad. No condition. -/
import Derived.Test.YtddgcakiceodgaaGreatM20
import Derived.Test.YtddgcakiceodgaaGreatM18
import Derived.Test.YtddgcakiceodgaaGreatM14
namespace Go.Proofs.YtddgcakiceodgaaGreat.EV
open Go Go.Proofs
set_option linter.unusedVariables false
set_option linter.unusedSimpArgs false
set_option maxRecDepth 100000
section
variable {n cb tb : Nat} {tag to : Int} {i : Nat} {s : PSt} {h : Heap}
abbrev SRes (a w : Int) : Value := .tuple ⟨[.int .i64 a, .int .i64 w]⟩
theorem kpOver (k : KP n cb tb tag to i s h) (ha : 5 ≤ s.at') : EF Tryz.prog O0 10 [ptr tb 0] h = some (SRes s.at' s.why, h) := stepOver_ev k.ph.tg (by omega)
theorem kpFail (k : KP n cb tb tag to i s h) (ha : s.at' < 5) (e : Int) (he : e ≠ 0) (hN : EF Tryz.prog O0 35 [ptr tb 0, .int .i64 ((s.at' : Int) + 1)] h = some (.int .i64 e, h)) :
  WPo (EF Tryz.prog O0 10 [ptr tb 0] h) fun r => r.1 = SRes 6 e ∧ KP n cb tb tag to i { s with at' := 6, why := e } r.2 ∧ Mod (fun j => j = tb) h r.2 := by
 refine step_ev k.ph.tg (by omega) (by omega) (R := fun r => r = (.int .i64 e, h)) ⟨_, hN, rfl⟩ ?_
 rintro r rfl
 refine ⟨e, s.tage, s.bv, s.qv, rfl, k.ph.tg, fun e0 => absurd e0 he, fun _ => ⟨rfl, ?_, setM _ _ _⟩⟩
 exact k.try_ (setM _ _ _) e 6 s.tage s.frc s.stale (get_set_same _ _ _) (by unfold ctag; rw [if_neg (by decide), if_neg (by omega)]) (Nat.le_refl _) k.fr ⟨k.ag.1.1, k.ag.1.2.1⟩ (fun _ h => absurd h (by decide)) (fun h => absurd h (by decide)) (fun h => by omega)
theorem kpStale (k : KP n cb tb tag to i s h) (h1 : 1 ≤ s.at') (ha : s.at' < 5) (hs : s.stale = true) :
  WPo (EF Tryz.prog O0 10 [ptr tb 0] h) fun r => r.1 = SRes 6 12 ∧ KP n cb tb tag to i { s with at' := 6, why := 12 } r.2 ∧ Mod (fun j => j = tb) h r.2 := by
 refine kpFail k ha 12 (by decide) ?_
 have hst := k.sta h1 ha
 rw [hs] at hst
 have hne : s.age ≠ s.tage := fun e => by rw [e, decide_eq_true rfl] at hst; cases hst
 have ht := k.ph.tg
 have cq := k.ph.cq
 have hm : s.at' = 1 ∨ s.at' = 2 ∨ s.at' = 3 ∨ s.at' = 4 := by omega
 rcases hm with e | e | e | e <;> rw [e] at ht ⊢
 ·exact stale2_ev cq ht hne
 ·exact stale3_ev cq ht hne
 ·exact stale4_ev cq ht hne
 ·exact stale5_ev cq ht hne
theorem KP.fresh (k : KP n cb tb tag to i s h) (h1 : 1 ≤ s.at') (ha : s.at' < 5) (hs : s.stale = false) : s.tage = s.age := by
 have hst := k.sta h1 ha
 rw [hs] at hst
 cases hd : decide (s.age = s.tage) with
 | true => exact (of_decide_eq_true hd).symm
 | false => rw [hd] at hst; cases hst
theorem kpForced (k : KP n cb tb tag to i s h) (ha : s.at' < 5) (hs : s.at' = 0 ∨ s.stale = false) (hf : s.frc.testBit (s.at' + 1) = true) :
  WPo (EF Tryz.prog O0 10 [ptr tb 0] h) fun r => r.1 = SRes 6 13 ∧ KP n cb tb tag to i { s with at' := 6, why := 13 } r.2 ∧ Mod (fun j => j = tb) h r.2 := by
 refine kpFail k ha 13 (by decide) ?_
 have ht := k.ph.tg
 have cq := k.ph.cq
 by_cases h0 : s.at' = 0
 ·rw [h0] at ht hf ⊢
  obtain ⟨r, e, hr⟩ := next1_ev cq ht
  rw [if_pos (show s.frc.testBit 1 = true from hf)] at hr
  rw [hr] at e
  exact e
 ·have hfr := k.fresh (by omega) ha (hs.resolve_left h0)
  rw [hfr] at ht
  have hm : s.at' = 1 ∨ s.at' = 2 ∨ s.at' = 3 ∨ s.at' = 4 := by omega
  rcases hm with e | e | e | e <;> rw [e] at ht hf ⊢
  ·exact forced2_ev cq ht hf
  ·exact forced3_ev cq ht hf
  ·exact forced4_ev cq ht hf
  ·exact forced5_ev cq ht hf
theorem kp0 (k : KP n cb tb tag to i s h) (ha : s.at' = 0) (hf : s.frc.testBit 1 = false) :
  WPo (EF Tryz.prog O0 10 [ptr tb 0] h) fun r => r.1 = SRes 1 0 ∧ KP n cb tb tag to i { s with at' := 1, why := 0, tage := s.age, stale := false } r.2 ∧ Mod (fun j => j = tb) h r.2 := by
 have ht := k.ph.tg
 have hw := k.wy (by omega)
 rw [ha, hw] at ht
 refine step_ev ht (by decide) (by decide) (next1_ev k.ph.cq ht) ?_
 rintro r hr
 rw [if_neg (show ¬ s.frc.testBit 1 = true by rw [hf]; decide)] at hr
 subst hr
 refine ⟨0, s.age, s.bv, s.qv, rfl, get_set_same _ _ _, fun _ => ⟨rfl, ?_, ?_⟩, fun e => absurd rfl e⟩
 ·rw [set_set]
  exact k.try_ (setM _ _ _) 0 1 s.age s.frc false (get_set_same _ _ _) (by unfold ctag; rw [if_neg (by decide), if_neg (by omega)]) (by decide) k.fr ⟨by have := k.ag; omega, Int.le_refl _⟩ (fun _ _ => by rw [decide_eq_true rfl]; rfl) (fun _ => rfl) (fun h => by omega)
 ·rw [set_set]
  exact setM _ _ _
theorem KP.cg (k : KP n cb tb tag to i s h) (htg : tgood tag = true) (ha : s.at' < 5) : cgood (ctag tag to s.at') s.cur (s.l.map (itP s.base)) = true := by
 have e : ctag tag to s.at' = tag := by unfold ctag; rw [if_neg (by omega)]
 rw [e]
 unfold cgood
 rw [k.good, Bool.and_true]
 exact htg
theorem KP.lens (k : KP n cb tb tag to i s h) : s.l.length ≤ 64 := k.lg.len
theorem kp1 (k : KP n cb tb tag to i s h) (htg : tgood tag = true) (ha : s.at' = 1) (hs : s.stale = false) (hf : s.frc.testBit 2 = false) :
  WPo (EF Tryz.prog O0 10 [ptr tb 0] h) fun r => r.1 = SRes 2 0 ∧ ∃ u, PH r.2 cb tb s.qb s.lb s.mb s.wb s.v u s.rv s.wv tag to s.base s.cur s.l s.idle s.age 2 0 s.tage s.qv (fun j => s.frc.testBit j) (sealN (encF tag s.cur (s.l.map (itP s.base)))) s.B ∧ Fresh h.next u ∧ Mod (fun j => j = tb) h r.2 := by
 have ht := k.ph.tg
 have hw := k.wy (by omega)
 have hfr := k.fresh (by omega) (by omega) hs
 have hcg := k.cg htg (by omega)
 have hl := k.lens
 have e : ctag tag to s.at' = tag := by unfold ctag; rw [if_neg (by omega)]
 have p := k.ph
 rw [e] at hcg p
 rw [ha, hw, hfr] at p
 rw [ha, hw, hfr] at ht
 refine step_ev ht (by decide) (by decide) (next2_ev p.cq ht p.tl hf (by omega) (k.lg.near (Int.le_refl _)) hcg) ?_
 rintro ⟨w, h1⟩ ⟨u, e, m, g1, ou, fu⟩
 simp only at e m g1 ou fu
 subst e
 rw [hfr]
 have hd : ∀ j, blkOf u j → ¬ blkOf s.rv j := fun j h1 h2 => by have := fu j h1; have := p.orr.lt h2; omega
 have p1 := p.tryB m g1 ou hd
 exact ⟨0, s.age, u, s.qv, rfl, g1, fun _ => ⟨rfl, u, p1.tryM (setM _ _ _) (get_set_same _ _ _), fu, m.trans (setM _ _ _)⟩, fun e => absurd rfl e⟩
theorem kp2 (k : KP n cb tb tag to i s h) (hto : tgood to = true) (hn : n ≤ h.next) (ha : s.at' = 2) (hs : s.stale = false) (hf : s.frc.testBit 3 = false) :
  WPo (EF Tryz.prog O0 10 [ptr tb 0] h) fun r => ∃ u, r.1 = SRes (if (readR s.B).2.2.2.2 = 0 then 3 else 6) (readR s.B).2.2.2.2 ∧ KP n cb tb tag to i { s with at' := if (readR s.B).2.2.2.2 = 0 then 3 else 6, why := (readR s.B).2.2.2.2, qv := u } r.2 ∧ Mod (fun j => j = tb) h r.2 := by
 have ht := k.ph.tg
 have hw := k.wy (by omega)
 have hfr := k.fresh (by omega) (by omega) hs
 rw [ha, hw, hfr] at ht
 have hbl := k.bl
 refine step_ev ht (by decide) (by decide) (next3_ev k.ph.cq ht k.ph.tl hf s.B k.ph.ob.sl (by omega) (by have := readR_len s.B; omega) hto rfl fun e => (cgood_facts (readR_good e)).2.2) ?_
 rintro ⟨w, h1⟩ ⟨e, m, u, g1, hk⟩
 simp only at e m g1 hk
 subst e
 have hc : ∀ (a : Nat), a = 3 ∨ a = 6 → ctag tag to a = ctag tag to s.at' := fun a ha' => by unfold ctag; rw [if_neg (by omega), if_neg (by omega)]
 have fin : ∀ (h2 : Heap) (a : Nat) (w : Int), a = (if (readR s.B).2.2.2.2 = 0 then 3 else 6) → w = (readR s.B).2.2.2.2 → h2 = h1.set tb (.cells (tryL cb to 0 (a : Int) w s.age s.bv u (fun j => s.frc.testBit j)) 0) →
   KP n cb tb tag to i { s with at' := if (readR s.B).2.2.2.2 = 0 then 3 else 6, why := (readR s.B).2.2.2.2, qv := u } h2 ∧ Mod (fun j => j = tb) h h2 := by
  intro h2 a w e1 e2 e3
  subst e3 e2
  have p1 := k.ph.tryM m g1
  have p2 := p1.tryM (setM h1 tb (.cells (tryL cb to 0 (a : Int) (readR s.B).2.2.2.2 s.age s.bv u (fun j => s.frc.testBit j)) 0)) (tage' := s.tage) (by rw [get_set_same, hfr])
  rw [e1] at p2 ⊢
  have ha36 : (if (readR s.B).2.2.2.2 = 0 then 3 else 6) = 3 ∨ (if (readR s.B).2.2.2.2 = 0 then 3 else 6) = 6 := by split <;> simp
  rw [← hc _ ha36] at p2
  refine ⟨⟨p2, k.lo, k.lg, k.bs, k.ag, ?_, k.fr, fun _ _ => ?_, k.bl, fun h => ?_, fun h3 h4 => ?_, fun h3 h4 => ?_⟩, m.trans (setM _ _ _)⟩
  ·show (if (readR s.B).2.2.2.2 = 0 then 3 else 6) ≤ 6
   split <;> decide
  ·exact k.sta (by omega) (by omega)
  ·have h : (if (readR s.B).2.2.2.2 = 0 then 3 else 6) < 5 := h
   split at h
   ·assumption
   ·omega
  ·have h3 : (if (readR s.B).2.2.2.2 = 0 then 3 else 6) = 3 ∨ (if (readR s.B).2.2.2.2 = 0 then 3 else 6) = 4 := h3
   by_cases q : (readR s.B).2.2.2.2 = 0
   ·obtain ⟨qb2, lb2, v2, e, pq, h5, h6, f7⟩ := hk q
    exact ⟨qb2, lb2, v2, e, pq.modT g1 (setM _ _ _), q, by omega, by omega, f7.mono hn⟩
   ·rw [if_neg q] at h3; omega
  ·have h3 : (if (readR s.B).2.2.2.2 = 0 then 3 else 6) = 4 := h3
   split at h3 <;> omega
 refine ⟨(readR s.B).2.2.2.2, s.age, s.bv, u, rfl, g1, fun e0 => ⟨u, ?_, ?_⟩, fun e0 => ⟨u, ?_, ?_⟩⟩
 ·simp only [e0, if_true]; rfl
 ·exact fin _ 3 0 (by rw [if_pos e0]) e0.symm rfl
 ·simp only [e0, if_false]
 ·exact fin _ 6 _ (by rw [if_neg e0]) rfl rfl
theorem kp3 (k : KP n cb tb tag to i s h) (ha : s.at' = 3) (hs : s.stale = false) (hf : s.frc.testBit 4 = false) :
  WPo (EF Tryz.prog O0 10 [ptr tb 0] h) fun r => ∀ F, F = faultsF (readR s.B).2.2.1 (readR s.B).2.2.2.1 s.cur (s.l.map (itP s.base)) → r.1 = SRes (if F = [] then 4 else 6) (if F = [] then 0 else 11) ∧ KP n cb tb tag to i { s with at' := if F = [] then 4 else 6, why := if F = [] then 0 else 11 } r.2 ∧ Mod (fun j => j = tb) h r.2 := by
 have ht := k.ph.tg
 have hw := k.wy (by omega)
 have hfr := k.fresh (by omega) (by omega) hs
 obtain ⟨qb2, lb2, v2, e2, pq, her, hq1, hq2, hq3⟩ := k.q3 (.inl ha) hs
 rw [ha, hw, hfr, e2] at ht
 have hgf := (cgood_facts (readR_good her)).2.2
 have hlr := readR_len s.B
 have N := next4_ev k.ph.cq pq ht k.ph.tl hf (by have := k.lens; omega) (k.lg.near (Int.le_refl _)) (by rw [List.length_map]; omega) (near_good hgf)
 rw [map_itP_ptI] at N
 refine step_ev ht (by decide) (by decide) N ?_
 rintro ⟨w, h1⟩ ⟨e, x⟩
 simp only at e x
 subst e
 have hF := faults_same (c1 := (readR s.B).2.2.1) (l := (readR s.B).2.2.2.1) k.good
 generalize faultsF (readR s.B).2.2.1 (readR s.B).2.2.2.1 s.cur (s.l.map (itP s.base)) = F at *
 have g1 := (x.old tb k.ph.tl).trans ht
 have k1 := k.ext x
 refine ⟨if F = [] then 0 else 11, s.age, s.bv, ptr qb2 0, rfl, g1, fun e0 => ?_, fun e0 => ?_⟩
 ·have hF0 : F = [] := by
   cases F with
   | nil => rfl
   | cons a b => rw [if_neg (by simp)] at e0; cases e0
  intro F' hF'
  subst hF'
  rw [hF0, if_pos rfl, if_pos rfl]
  rw [hF0, show decide (((List.length ([] : List Flt)) : Int) = 0) = true from rfl] at hF
  have hF2 := hF.symm
  rw [Bool.and_eq_true, decide_eq_true_eq, decide_eq_true_eq] at hF2
  refine ⟨rfl, ?_, (x.mod _).trans (setM _ _ _)⟩
  have hm := setM h1 tb (.cells (tryL cb to 0 (3 + 1) 0 s.age s.bv (ptr qb2 0) (fun j => s.frc.testBit j)) 0)
  have p2 := k1.ph.tryM hm (st' := ((4 : Nat) : Int)) (why' := 0) (tage' := s.tage) (qv' := s.qv) (f' := fun j => s.frc.testBit j) (by rw [get_set_same, hfr, e2]; rfl)
  have hc : ctag tag to s.at' = ctag tag to 4 := by unfold ctag; rw [if_neg (by omega), if_neg (by omega)]
  rw [hc] at p2
  exact ⟨p2, k.lo, k.lg, k.bs, k.ag, (by decide : (4 : Nat) ≤ 6), k.fr, fun _ _ => k.sta (by omega) (by omega), k.bl, fun _ => rfl, fun _ _ => ⟨qb2, lb2, v2, e2, (pq.ext x).modT (by exact g1) hm, her, hq1, hq2, hq3⟩, fun _ _ => hF2⟩
 ·have hF0 : F ≠ [] := fun e => by rw [if_pos e] at e0; exact e0 rfl
  intro F' hF'
  subst hF'
  simp only [if_neg hF0]
  refine ⟨trivial, ?_, (x.mod _).trans (setM _ _ _)⟩
  exact k1.try_ (setM _ _ _) 11 6 s.tage s.frc s.stale (by rw [get_set_same, hfr, e2]; rfl) (by unfold ctag; rw [if_neg (by decide), if_neg (by omega)]) (Nat.le_refl _) k.fr ⟨k.ag.1.1, k.ag.1.2.1⟩ (fun _ h => absurd h (by decide)) (fun h => absurd h (by decide)) (fun h => by omega)
theorem kp4 (k : KP n cb tb tag to i s h) (hto : tgood to = true) (hn : n ≤ h.next) (ha : s.at' = 4) (hs : s.stale = false) (hf : s.frc.testBit 5 = false) :
  WPo (EF Tryz.prog O0 10 [ptr tb 0] h) fun r => r.1 = SRes 5 0 ∧ RQ r.2 s.wb s.wv tag s.base s.cur s.l ∧ Mod (fun j => j = tb ∨ j = cb) h r.2 ∧ ∃ qb2 lb2 v2, ∀ (h' : Heap) (wb' : Nat) (wv' : Value), Ext r.2 h' → RQ h' wb' wv' to 0 s.cur ((s.l.map (itP s.base)).map (ptI 0)) → r.2.next ≤ wb' → Fresh r.2.next wv' →
   KP n cb tb tag to i { s with qb := qb2, lb := lb2, v := v2, wb := wb', wv := wv', base := 0, l := (s.l.map (itP s.base)).map (ptI 0), at' := 5, why := 0 } h' := by
 have ht := k.ph.tg
 have hw := k.wy (by omega)
 have hfr := k.fresh (by omega) (by omega) hs
 obtain ⟨qb2, lb2, v2, e2, pq, her, hq1, hq2, hq3⟩ := k.q3 (.inr ha) hs
 obtain ⟨c1, c2⟩ := k.q4 ha hs
 rw [ha, hw, hfr, e2] at ht
 rw [c1, c2] at pq
 have hgf := k.good
 have hl := k.lens
 have e5 : ctag tag to s.at' = tag := by unfold ctag; rw [if_neg (by omega)]
 have p := k.ph
 rw [e5] at p
 have N := next5_ev p.cq pq ht p.tl hf (by omega) (k.lg.near (Int.le_refl _)) (by rw [List.length_map, List.length_map]; omega) (near_good hgf)
 rw [map_itP_ptI] at N
 refine step_ev ht (by decide) (by decide) N ?_
 rintro ⟨w, h1⟩ kk
 rw [if_pos ⟨rfl, rfl⟩] at kk
 obtain ⟨e, m, g⟩ := kk
 simp only at e m g
 subst e
 have cq := p.cq
 have g1 : h1.get tb = .cells (tryL cb to 0 4 0 s.age s.bv (ptr qb2 0) (fun j => s.frc.testBit j)) 0 := (m.old tb p.tl fun e => cq.tne ht e.symm).trans ht
 have kc : ∀ {α : Type} {e : α → List Value} {es : Nat} {u : Value} {X : List α}, OW e es h u X → es ≠ 0 → OW e es h1 u X := fun o h0 => o.mod m fun j hj e => by subst e; exact (cq.row o h0 hj).1 rfl
 have c1 : CQ h1 cb qb2 lb2 s.mb v2 to 0 s.cur ((s.l.map (itP s.base)).map (ptI 0)) s.idle s.age := ⟨Nat.lt_of_lt_of_le cq.lt m.le, g, Nat.lt_of_lt_of_le cq.ml m.le, cq.mp.mod cq.ml m fun e => cq.mne cq.gb e.symm, pq.mod m (fun e => by have := pq.gb; rw [e, cq.gb] at this; cases this) (fun e => by have := pq.lq.gb; rw [e, cq.gb] at this; cases this) (fun j hj e => by rw [e] at hj; exact ow_ne pq.lq.ow cq.gb (by decide) hj)⟩
 have o1 := kc p.ob (by decide)
 have o2 := kc p.orr (by decide)
 have r1 : RQ h1 s.wb s.wv tag s.base s.cur s.l := p.rq.mod m (fun e => p.cbw.1 e.symm) fun j hj e => by subst e; exact (cq.row p.rq.ow (by decide) hj).1 rfl
 have hm := setM h1 tb (.cells (tryL cb to 0 (4 + 1) 0 s.age s.bv (ptr qb2 0) (fun j => s.frc.testBit j)) 0)
 have htl1 : tb < h1.next := Nat.lt_of_lt_of_le p.tl m.le
 refine ⟨0, s.age, s.bv, ptr qb2 0, rfl, g1, fun _ => ⟨rfl, ?_, (m.mono fun _ _ e => .inr e).trans (hm.mono fun _ _ e => .inl e), qb2, lb2, v2, fun h' wb' wv' x rq' hwb hwv => ?_⟩, fun e => absurd rfl e⟩
 ·exact r1.mod hm (fun e => p.tbv.2.2.2 e.symm) fun j hj e => by subst e; exact ow_ne r1.ow g1 (by decide) hj
 ·have c2 := (c1.modT g1 hm).ext x
  have b1 := (o1.modT g1 hm).ext x
  have b2 := (o2.modT g1 hm).ext x
  have hle := (hm.le)
  refine ⟨⟨c2, Nat.lt_of_lt_of_le htl1 (Nat.le_trans hm.le x.le), ?_, b1, b2, rq', fun j h1 h2 => ?_, k.ph.d2⟩, fun j hj => ?_, ?_, ⟨Int.le_refl _, ?_⟩, k.ag, (by decide : (5 : Nat) ≤ 6), k.fr, fun _ h => absurd h (Nat.lt_irrefl 5), k.bl, fun h => absurd h (Nat.lt_irrefl 5), fun h => absurd h (by simp), fun h => absurd h (by simp)⟩
  ·rw [x.old tb (by rw [next_set]; exact htl1), get_set_same]
   show Blk.cells (tryL cb to 0 (4 + 1) 0 s.age s.bv (ptr qb2 0) fun j => s.frc.testBit j) 0 = Blk.cells (tryL cb to 0 ((5 : Nat) : Int) 0 s.tage s.bv s.qv fun j => s.frc.testBit j) 0
   rw [hfr, e2]; rfl
  ·have h5 := hwv j h2
   have h6 : j < h.next := pq.lq.ow.lt h1
   have := m.le
   simp only [next_set] at h5
   omega
  ·have hlo := k.lo j
   unfold foot at hlo hj
   have hmle := m.le
   simp only [next_set] at hwb hwv
   rcases hj with e | e | e | e | e | e | e | e | e | e
   ·exact hlo (.inl e)
   ·exact hlo (.inr (.inl e))
   ·have e : j = qb2 := e; omega
   ·have e : j = lb2 := e; omega
   ·exact hlo (.inr (.inr (.inr (.inr (.inl e)))))
   ·have e : j = wb' := e; omega
   ·have := hq3 j e; omega
   ·exact hlo (.inr (.inr (.inr (.inr (.inr (.inr (.inr (.inl e))))))))
   ·exact hlo (.inr (.inr (.inr (.inr (.inr (.inr (.inr (.inr (.inl e)))))))))
   ·have := hwv j e; omega
  ·rw [← goodF_iff, map_itP_ptI]; exact hgf
  ·have := k.bs; show (0 : Int) ≤ (i : Int) * 1125899906842624; omega
end
theorem bit_dec (m k : Nat) : decide (((m >>> k &&& 1 : Nat) : Int) = 1) = m.testBit k := by
 rw [Nat.testBit, Nat.and_comm 1, Nat.and_one_is_mod]
 rcases Nat.mod_two_eq_zero_or_one (m >>> k) with h | h <;> rw [h] <;> rfl
theorem and_i64 (P : Program) (t : TypeId) (x y : Operand) {n m : Nat} (hn : n < 4611686018427387904) (hm : m < 4611686018427387904) : evBin P .and t x y (.int .i64 (n : Int)) (.int .i64 (m : Int)) = some (.int .i64 ((n &&& m : Nat) : Int)) := by
 refine bin_int _ _ _ _ _ _ _ _ _ ?_ rfl
 show some (Value.int .i64 (wrapF .i64 (Int.ofNat (Nat.land (natK .i64 n) (natK .i64 m))))) = _
 rw [natK_nat (by show n < 18446744073709551616; omega), natK_nat (by show m < 18446744073709551616; omega)]
 show some (Value.int .i64 (wrapF .i64 ((n &&& m : Nat) : Int))) = _
 have : n &&& m ≤ n := Nat.and_le_left
 rw [wrap64 (by omega)]
theorem or_i64 (P : Program) (t : TypeId) (x y : Operand) {n m : Nat} (hn : n < 64) (hm : m < 64) : evBin P .or t x y (.int .i64 (n : Int)) (.int .i64 (m : Int)) = some (.int .i64 ((n ||| m : Nat) : Int)) := by
 refine bin_int _ _ _ _ _ _ _ _ _ ?_ rfl
 show some (Value.int .i64 (wrapF .i64 (Int.ofNat (Nat.lor (natK .i64 n) (natK .i64 m))))) = _
 rw [natK_nat (by show n < 18446744073709551616; omega), natK_nat (by show m < 18446744073709551616; omega)]
 show some (Value.int .i64 (wrapF .i64 ((n ||| m : Nat) : Int))) = _
 have : n ||| m < 2 ^ 6 := Nat.or_lt_two_pow hn hm
 rw [wrap64 (by omega)]
theorem force_or (m k : Nat) : forceF (fun j => m.testBit j) k = fun j => (m ||| 2 ^ k).testBit j := by
 funext j
 unfold forceF
 rw [Nat.testBit_or, Nat.testBit_two_pow]
 by_cases q : j = k
 ·rw [if_pos q, decide_eq_true q.symm, Bool.or_true]
 ·rw [if_neg q, decide_eq_false (fun e => q e.symm), Bool.or_false]
theorem pickI_some {D base cur tag : Int} {l : List Pnt} (h : LG D base cur l) (ht : tgood tag = true) (hl : l ≠ []) : (nowI (curR tag cur l) l).isSome = true := by
 have hs : someP l = true := by
  unfold someP
  rw [decide_eq_false fun e => hl (List.length_eq_zero_iff.1 e)]; rfl
 have hw : ∀ p ∈ l, 1 ≤ p.w ∧ p.w ≤ 20 := fun p hp => (h.pt p hp).2.1
 have key : ∃ p ∈ l, curR tag cur l = p.id := by
  rcases tgood_c ht with rfl | rfl | rfl
  ·exact ⟨_, leastP_mem hl, curR_some (by rw [pickI_0, hs]; rfl)⟩
  ·by_cases q : (nowI cur l).isSome = true ∧ (nowP cur l).v - 465585120 ≤ (leastP l).v
   ·obtain ⟨i, hi, hx, hid⟩ := now_some q.1
    exact ⟨_, List.mem_of_getElem? hx, curR_some (by unfold pickI; rw [if_pos ⟨rfl, q⟩])⟩
   ·exact ⟨_, leastP_mem hl, curR_some (by rw [pickI_1 _ _ q, hs]; rfl)⟩
  ·obtain ⟨p, hp⟩ := Option.isSome_iff_exists.1 (dueBest_some hl hw)
   exact ⟨p, (dueBest_spec hp).1, curR_some (by rw [pickI_2, hp]; rfl)⟩
 obtain ⟨p, hp, e⟩ := key
 rw [e]
 exact nowI_mem hp
section
variable {h h' : Heap} {cb tb qb lb mb wb : Nat} {v bv rv wv : Value} {tag to base cur tag2 base2 cur2 : Int} {l l2 : List Pnt} {idle age st why tage : Int} {qv : Value} {f : Nat → Bool} {B R : List UInt8}
theorem refKeep (cq : CQ h cb qb lb mb v tag base cur l idle age) (tl : tb < h.next) (tg : h.get tb = .cells (tryL cb to 0 st why tage bv qv f) 0) (ob : OW byteE 1 h bv B) (orr : OW byteE 1 h rv R) (rq : RQ h wb wv tag2 base2 cur2 l2) (d1 : ∀ j, blkOf v j → ¬ blkOf wv j) (m : Mod (fun j => j = wb ∨ blkOf wv j) h h') : CQ h' cb qb lb mb v tag base cur l idle age ∧ tb < h'.next ∧ h'.get tb = .cells (tryL cb to 0 st why tage bv qv f) 0 ∧ OW byteE 1 h' bv B ∧ OW byteE 1 h' rv R := by
 have g := rq.gb
 have n1 : cb ≠ wb := fun e => by have := cq.gb; rw [e, g] at this; cases this
 have n2 : qb ≠ wb := fun e => by have := cq.pq.gb; rw [e, g] at this; cases this
 have n3 : lb ≠ wb := fun e => by have := cq.pq.lq.gb; rw [e, g] at this; cases this
 have n4 : mb ≠ wb := fun e => cq.mne g e.symm
 have t3 : ¬ blkOf wv tb := ow_ne rq.ow tg (by decide)
 have t4 : tb ≠ wb := fun e => by rw [← e, tg] at g; unfold tryL at g; cases g
 have kb : ∀ {u : Value} {X : List UInt8}, OW byteE 1 h u X → OW byteE 1 h' u X := fun o => o.mod m fun j hj e => by
  rcases e with e | e
  ·subst e; exact ow_ne o g (by decide) hj
  ·exact ow_disj o rq.ow (by decide) hj e
 refine ⟨cq.keep m (fun j e => ?_) fun j hj e => ?_, Nat.lt_of_lt_of_le tl m.le, (m.old tb tl fun e => e.elim t4 t3).trans tg, kb ob, kb orr⟩
 ·rcases e with e | e
  ·subst e; exact ⟨n1.symm, n2.symm, n3.symm, n4.symm⟩
  ·exact cq.row rq.ow (by decide) e
 ·rcases e with e | e
  ·subst e; exact ow_ne cq.pq.lq.ow g (by decide) hj
  ·exact d1 j hj e
end
noncomputable def bst (H0 B : Nat) (h0 : Heap) (i : Nat) (cu fr : Bool) (x : Item) (acc : List Flt) (q : Exit × St) : Prop :=
 ∃ tm h' u, q = (.normal, ⟨tm, h', []⟩) ∧ OW fltE 2 h' u acc ∧ Gr (.slice none 0 1) h0 u h' ∧ B < h'.next ∧ h'.get B = .cells (itemE x) 0 ∧ h0.next ≤ B ∧ ¬ blkOf u B ∧ Fr.get tm 1 = ptr H0 0 ∧ Fr.get tm 3 = u ∧ Fr.get tm 4 = .bool cu ∧ Fr.get tm 5 = .bool fr ∧ Fr.get tm 6 = .int .i64 i ∧ Fr.get tm 7 = ptr B 0
set_option maxHeartbeats 4000000 in
theorem bad_ev (cur : Int) (l : List Item) (s : Value) (h : Heap) (hs : SL itemE 3 h s l) (hl : l.length < 900000) :
  WPo (EF Tryz.prog O0 49 [formV cur s] h) fun q => OW fltE 2 q.2 q.1 (formF cur l) ∧ Fresh h.next q.1 ∧ Ext h q.2 := by
 rw [EF_body (O := O0) (by kernel_rfl) Tryz.func49 rfl (rs := [.tmp 2]) rfl (bad := []) (by kernel_rfl) _ _ (m := 125) rfl]
 obtain ⟨a, c, hv⟩ := hs.val
 subst hv
 unfold formV
 simp (disch := first|exact dis|fail) only [go_sem, simprocAttr, ↓EU_rg]
 repeat refine WPo_ob ?_
 generalize hh0 : h.push (.cells [.int .i64 cur, .slice a l.length c] 0) = h0
 have x0 : Ext h h0 := by rw [← hh0]; exact (Ext.refl h).push _
 have hF0 : h0.get h.next = .cells [.int .i64 cur, .slice a l.length c] 0 := by rw [← hh0]; exact get_push_new _ _
 have hn0 : h0.next = h.next + 1 := by rw [← hh0]; exact next_push _ _
 clear hh0
 refine (LP_rule (fun m st => ∃ (i : Nat) (tm : Fr) (h2 : Heap) (u : Value) (acc : List Flt), st = ⟨tm, h2, []⟩ ∧ m = l.length - i ∧ i ≤ l.length ∧ Fr.get tm 1 = ptr h.next 0 ∧ Fr.get tm 3 = u ∧ Fr.get tm 4 = .bool (decide (cur = -1) || (l.take i).any (byId cur)) ∧ Fr.get tm 5 = .bool (decide ((l.length : Int) = 0) || (l.take i).any lagOk) ∧ Fr.get tm 6 = .int .i64 i ∧ OW fltE 2 h2 u acc ∧ Gr (.slice none 0 1) h0 u h2 ∧ acc.length ≤ 4 * i ∧ fGo none l = acc ++ fGo (prevAt l i) (l.drop i))
  (fun q => ∃ tm h2 u, q.2 = ⟨tm, h2, []⟩ ∧ q.1 = .exit 0 ∧ Fr.get tm 1 = ptr h.next 0 ∧ Fr.get tm 3 = u ∧ Fr.get tm 4 = .bool (decide (cur = -1) || l.any (byId cur)) ∧ Fr.get tm 5 = .bool (decide ((l.length : Int) = 0) || l.any lagOk) ∧ OW fltE 2 h2 u (fGo none l) ∧ Gr (.slice none 0 1) h0 u h2) ?_ l.length _ _ ?_ ?_).mono ?_
 ·rintro m _ ⟨i, tm, h2, u, acc, rfl, rfl, hi, k1, k3, k4, k5, k6, hov, gr, hal, hgo⟩
  have hF : ∀ {u : Value} {h' : Heap}, Gr (.slice none 0 1) h0 u h' → h'.get h.next = .cells [.int .i64 cur, .slice a l.length c] 0 := fun g => (g.old _ (by omega) (nil_blk _ _ _)).trans hF0
  have hx' : ∀ {u : Value} {h' : Heap}, Gr (.slice none 0 1) h0 u h' → Ext h h' := fun g => x0.trans (g.ext0 (Ext.refl _) (Fresh.nil _ _ _))
  have o2 := hF gr
  have hn2 := gr.le
  obtain ⟨av, kv, rfl⟩ := hov.val
  simp (disch := first|exact dis|fail) only [go_sem, simprocAttr, ↓EU_rg, k1, k6, o2]
  ((repeat refine WPo_ob ?_); (first | refine WPo_cond (fun b1 => ?_) (fun b1 => ?_) | refine WPo_gard (fun b1 => ?_) (fun b1 => ?_) | refine WPo_gardT (fun b1 => ?_) (fun b1 => ?_)) <;> (try simp only [Bool.not_eq_true', Bool.not_eq_false'] at b1))
  ·have b1' := b1
   simp only [decide_eq_true_eq] at b1'
   have hi' : i < l.length := by omega
   obtain ⟨x, hx⟩ : ∃ x, l[i]? = some x := ⟨_, List.getElem?_eq_getElem hi'⟩
   obtain ⟨b, o, c', e, hb', hrd, hr⟩ := (hs.ext (hx' gr)).at hx rfl
   cases e
   simp (disch := first|exact dis|fail) only [go_sem, simprocAttr, k1, k3, k4, k5, k6, o2, hrd]
   (first | rw [EU_region] | rw [EU_draw _ _ rfl]); simp (disch := first|exact dis|fail) only [go_sem, simprocAttr, k1, k3, k4, k5, k6, o2, hrd]
   have hnx : h2.next < (h2.push (.cells (itemE x) 0)).next := by rw [next_push]; omega
   have hgx : (h2.push (.cells (itemE x) 0)).get h2.next = .cells (itemE x) 0 := get_push_new _ _
   have hgo2 : fGo none l = acc ++ (flts x.id (chks (prevAt l i) x) ++ fGo (some x) (l.drop (i + 1))) := by rw [hgo, drop_at hx]; rfl
   have hflt : flts x.id (chks (prevAt l i) x) = ((ifF (idBad x) ⟨1, x.id⟩ ++ ifF (ordBad (prevAt l i) x) ⟨2, x.id⟩) ++ ifF (!wgood x.w) ⟨3, x.id⟩) ++ ifF (lagBad x) ⟨4, x.id⟩ := by
    unfold flts chks
    cases idBad x <;> cases ordBad (prevAt l i) x <;> cases wgood x.w <;> cases lagBad x <;> rfl
   rw [hflt] at hgo2
   clear hflt hgo
   have hB := hnx
   have hX := hgx
   have h0B := hn2
   have hnb : ¬ blkOf (.slice av acc.length kv) h2.next := fun q => by have := hov.lt q; omega
   replace hov := hov.ext ((Ext.refl h2).push (.cells (itemE x) 0))
   replace gr := gr.push (.cells (itemE x) 0)
   generalize h2.push (.cells (itemE x) 0) = h' at *
   generalize h2.next = B at *
   have l1 := ifF_len (idBad x) ⟨1, x.id⟩
   have l2 := ifF_len (ordBad (prevAt l i) x) ⟨2, x.id⟩
   have l3 := ifF_len (!wgood x.w) ⟨3, x.id⟩
   have l4 := ifF_len (lagBad x) ⟨4, x.id⟩
   refine WPo_ob ?_
   refine WPo_ob ?_
   refine WPo_ob ?_
   refine WPo.mono (Q := bst h.next B h0 i (decide (cur = -1) || (l.take i).any (byId cur)) (decide ((l.length : Int) = 0) || (l.take i).any lagOk) x (acc ++ ifF (idBad x) ⟨1, x.id⟩)) ?_ ?_
   ·cases d1 : decide (x.id < 0) with
    | true =>
     have hb : idBad x = true := by unfold idBad; rw [d1]; rfl
     rw [hb]
     simp (disch := first|exact dis|fail) only [go_sem, simprocAttr, ↓EU_rg, k1, k3, k4, k5, k6, hX, d1]
     repeat refine WPo_ob ?_
     have hlit := OW.lit fltE_len h' [(⟨1, x.id⟩ : Flt)]
     rw [List.flatMap_cons, List.flatMap_nil, List.append_nil] at hlit
     unfold fltE at hlit
     refine append_gr (l := acc) (l' := [(⟨1, x.id⟩ : Flt)]) fc_ap_62_62 fltE_len (by decide) fltE_scal (hov.ext ((Ext.refl h').push _)) hlit.sl (by simp only [List.length_append, List.length_cons, List.length_nil]; omega) (by simp only [List.length_append, List.length_cons, List.length_nil]; omega) fun v' h5 hov5 gr5 => ?_
     simp (disch := first|exact dis|fail) only [go_sem, simprocAttr, ↓EU_rg, k1, k3, k4, k5, k6, hX]
     exact ⟨_, _, _, rfl, by rw [ifF_t]; exact hov5, (gr.push _).trans gr5, by have := gr5.le; rw [next_push] at this; omega, by rw [gr5.old _ (by rw [next_push]; omega) hnb, get_push_old _ hB]; exact hX, h0B, (fun q => by rcases gr5.src _ q with q | q; exact hnb q; rw [next_push] at q; omega), by simp (disch := first|exact dis|fail) only [go_sem, simprocAttr, ↓EU_rg, k1], by simp (disch := first|exact dis|fail) only [go_sem, simprocAttr, ↓EU_rg], by simp (disch := first|exact dis|fail) only [go_sem, simprocAttr, ↓EU_rg, k4], by simp (disch := first|exact dis|fail) only [go_sem, simprocAttr, ↓EU_rg, k5], by simp (disch := first|exact dis|fail) only [go_sem, simprocAttr, ↓EU_rg, k6], by simp (disch := first|exact dis|fail) only [go_sem, simprocAttr, ↓EU_rg]⟩
    | false =>
     cases d2 : decide (1073741824 < x.id) with
     | true =>
      have hb : idBad x = true := by unfold idBad; rw [d1, d2]; rfl
      rw [hb]
      simp (disch := first|exact dis|fail) only [go_sem, simprocAttr, ↓EU_rg, k1, k3, k4, k5, k6, hX, d1, d2]
      repeat refine WPo_ob ?_
      have hlit := OW.lit fltE_len h' [(⟨1, x.id⟩ : Flt)]
      rw [List.flatMap_cons, List.flatMap_nil, List.append_nil] at hlit
      unfold fltE at hlit
      refine append_gr (l := acc) (l' := [(⟨1, x.id⟩ : Flt)]) fc_ap_62_62 fltE_len (by decide) fltE_scal (hov.ext ((Ext.refl h').push _)) hlit.sl (by simp only [List.length_append, List.length_cons, List.length_nil]; omega) (by simp only [List.length_append, List.length_cons, List.length_nil]; omega) fun v' h5 hov5 gr5 => ?_
      simp (disch := first|exact dis|fail) only [go_sem, simprocAttr, ↓EU_rg, k1, k3, k4, k5, k6, hX]
      exact ⟨_, _, _, rfl, by rw [ifF_t]; exact hov5, (gr.push _).trans gr5, by have := gr5.le; rw [next_push] at this; omega, by rw [gr5.old _ (by rw [next_push]; omega) hnb, get_push_old _ hB]; exact hX, h0B, (fun q => by rcases gr5.src _ q with q | q; exact hnb q; rw [next_push] at q; omega), by simp (disch := first|exact dis|fail) only [go_sem, simprocAttr, ↓EU_rg, k1], by simp (disch := first|exact dis|fail) only [go_sem, simprocAttr, ↓EU_rg], by simp (disch := first|exact dis|fail) only [go_sem, simprocAttr, ↓EU_rg, k4], by simp (disch := first|exact dis|fail) only [go_sem, simprocAttr, ↓EU_rg, k5], by simp (disch := first|exact dis|fail) only [go_sem, simprocAttr, ↓EU_rg, k6], by simp (disch := first|exact dis|fail) only [go_sem, simprocAttr, ↓EU_rg]⟩
     | false =>
      have hb : idBad x = false := by unfold idBad; rw [d1, d2]; rfl
      rw [hb]
      simp (disch := first|exact dis|fail) only [go_sem, simprocAttr, ↓EU_rg, k1, k3, k4, k5, k6, hX, d1, d2]
      exact ⟨_, _, _, rfl, by rw [ifF_f, List.append_nil]; exact hov, gr, hB, hX, h0B, hnb, by simp (disch := first|exact dis|fail) only [go_sem, simprocAttr, ↓EU_rg, k1], by simp (disch := first|exact dis|fail) only [go_sem, simprocAttr, ↓EU_rg, k3], by simp (disch := first|exact dis|fail) only [go_sem, simprocAttr, ↓EU_rg, k4], by simp (disch := first|exact dis|fail) only [go_sem, simprocAttr, ↓EU_rg, k5], by simp (disch := first|exact dis|fail) only [go_sem, simprocAttr, ↓EU_rg, k6], by simp (disch := first|exact dis|fail) only [go_sem, simprocAttr, ↓EU_rg]⟩
   ·generalize hA : acc ++ ifF (idBad x) ⟨1, x.id⟩ = A1
    have la : A1.length ≤ 4 * i + 1 := by rw [← hA, List.length_append]; omega
    clear k1 k3 k4 k5 k6 hov hX hB hnb gr
    rintro _ ⟨tm, h', u, rfl, hov, gr, hB, hX, h0B, hnb, k1, k3, k4, k5, k6, k7⟩
    have o2 := hF gr
    obtain ⟨av, kv, rfl⟩ := hov.val
    simp (disch := first|exact dis|fail) only [go_sem, simprocAttr]
    refine WPo_ob ?_
    refine WPo.mono (Q := bst h.next B h0 i (decide (cur = -1) || (l.take i).any (byId cur)) (decide ((l.length : Int) = 0) || (l.take i).any lagOk) x (A1 ++ ifF (ordBad (prevAt l i) x) ⟨2, x.id⟩)) ?_ ?_
    ·rcases Nat.eq_zero_or_pos i with q0 | q0
     ·have hp : prevAt l i = none := by unfold prevAt; rw [if_pos q0]
      have dz : decide ((i : Int) > 0) = false := decide_eq_false (by omega)
      rw [hp]
      show WPo _ (bst h.next B h0 i (decide (cur = -1) || (l.take i).any (byId cur)) (decide ((l.length : Int) = 0) || (l.take i).any lagOk) x (A1 ++ ifF false ⟨2, x.id⟩))
      simp (disch := first|exact dis|fail) only [go_sem, simprocAttr, ↓EU_rg, k1, k3, k4, k5, k6, k7, hX, o2, dz]
      exact ⟨_, _, _, rfl, by rw [ifF_f, List.append_nil]; exact hov, gr, hB, hX, h0B, hnb, by simp (disch := first|exact dis|fail) only [go_sem, simprocAttr, ↓EU_rg, k1], by simp (disch := first|exact dis|fail) only [go_sem, simprocAttr, ↓EU_rg, k3], by simp (disch := first|exact dis|fail) only [go_sem, simprocAttr, ↓EU_rg, k4], by simp (disch := first|exact dis|fail) only [go_sem, simprocAttr, ↓EU_rg, k5], by simp (disch := first|exact dis|fail) only [go_sem, simprocAttr, ↓EU_rg, k6], by simp (disch := first|exact dis|fail) only [go_sem, simprocAttr, ↓EU_rg, k7]⟩
     ·obtain ⟨y, hy⟩ : ∃ y, l[i - 1]? = some y := ⟨_, List.getElem?_eq_getElem (by omega)⟩
      obtain ⟨_, _, _, e, _, _, hq⟩ := (hs.ext (hx' gr)).at hy rfl
      cases e
      have hq0 := hq 0 _ rfl
      rw [add_z] at hq0
      have hp : prevAt l i = some y := by unfold prevAt; rw [if_neg (by omega), hy]
      have dz : decide ((i : Int) > 0) = true := decide_eq_true (by omega)
      have hw1 : wrapF .i64 ((i : Int) - 1) = ((i - 1 : Nat) : Int) := by rw [wrap64 (by omega)]; omega
      rw [hp]
      cases d : decide (x.id ≤ y.id) with
      | true =>
       have hb : ordBad (some y) x = true := d
       rw [hb]
       simp (disch := first|exact dis|fail) only [go_sem, simprocAttr, ↓EU_rg, k1, k3, k4, k5, k6, k7, hX, o2, dz, hw1, hq0, d]
       repeat refine WPo_ob ?_
       have hlit := OW.lit fltE_len h' [(⟨2, x.id⟩ : Flt)]
       rw [List.flatMap_cons, List.flatMap_nil, List.append_nil] at hlit
       unfold fltE at hlit
       refine append_gr (l := A1) (l' := [(⟨2, x.id⟩ : Flt)]) fc_ap_62_62 fltE_len (by decide) fltE_scal (hov.ext ((Ext.refl h').push _)) hlit.sl (by simp only [List.length_append, List.length_cons, List.length_nil]; omega) (by simp only [List.length_append, List.length_cons, List.length_nil]; omega) fun v' h5 hov5 gr5 => ?_
       simp (disch := first|exact dis|fail) only [go_sem, simprocAttr, ↓EU_rg, k1, k3, k4, k5, k6, k7, hX]
       exact ⟨_, _, _, rfl, by rw [ifF_t]; exact hov5, (gr.push _).trans gr5, by have := gr5.le; rw [next_push] at this; omega, by rw [gr5.old _ (by rw [next_push]; omega) hnb, get_push_old _ hB]; exact hX, h0B, (fun q => by rcases gr5.src _ q with q | q; exact hnb q; rw [next_push] at q; omega), by simp (disch := first|exact dis|fail) only [go_sem, simprocAttr, ↓EU_rg, k1], by simp (disch := first|exact dis|fail) only [go_sem, simprocAttr, ↓EU_rg], by simp (disch := first|exact dis|fail) only [go_sem, simprocAttr, ↓EU_rg, k4], by simp (disch := first|exact dis|fail) only [go_sem, simprocAttr, ↓EU_rg, k5], by simp (disch := first|exact dis|fail) only [go_sem, simprocAttr, ↓EU_rg, k6], by simp (disch := first|exact dis|fail) only [go_sem, simprocAttr, ↓EU_rg, k7]⟩
      | false =>
       have hb : ordBad (some y) x = false := d
       rw [hb]
       simp (disch := first|exact dis|fail) only [go_sem, simprocAttr, ↓EU_rg, k1, k3, k4, k5, k6, k7, hX, o2, dz, hw1, hq0, d]
       exact ⟨_, _, _, rfl, by rw [ifF_f, List.append_nil]; exact hov, gr, hB, hX, h0B, hnb, by simp (disch := first|exact dis|fail) only [go_sem, simprocAttr, ↓EU_rg, k1], by simp (disch := first|exact dis|fail) only [go_sem, simprocAttr, ↓EU_rg, k3], by simp (disch := first|exact dis|fail) only [go_sem, simprocAttr, ↓EU_rg, k4], by simp (disch := first|exact dis|fail) only [go_sem, simprocAttr, ↓EU_rg, k5], by simp (disch := first|exact dis|fail) only [go_sem, simprocAttr, ↓EU_rg, k6], by simp (disch := first|exact dis|fail) only [go_sem, simprocAttr, ↓EU_rg, k7]⟩
    ·generalize hA2 : A1 ++ ifF (ordBad (prevAt l i) x) ⟨2, x.id⟩ = A2
     have la2 : A2.length ≤ 4 * i + 2 := by rw [← hA2, List.length_append]; omega
     clear k1 k3 k4 k5 k6 k7 hov hX hB hnb gr o2 h0B
     rintro _ ⟨tm, h', u, rfl, hov, gr, hB, hX, h0B, hnb, k1, k3, k4, k5, k6, k7⟩
     have o2 := hF gr
     obtain ⟨av, kv, rfl⟩ := hov.val
     simp (disch := first|exact dis|fail) only [go_sem, simprocAttr]
     refine WPo_ob ?_
     refine WPo.mono (Q := bst h.next B h0 i (decide (cur = -1) || (l.take i).any (byId cur)) (decide ((l.length : Int) = 0) || (l.take i).any lagOk) x (A2 ++ ifF (!wgood x.w) ⟨3, x.id⟩)) ?_ ?_
     ·cases d : wgood x.w with
      | true =>
       simp (disch := first|exact dis|fail) only [go_sem, simprocAttr, ↓EU_rg, k1, k3, k4, k5, k6, k7, hX, o2, rwGood_ev, d]
       exact ⟨_, _, _, rfl, by rw [ifF_f, List.append_nil]; exact hov, gr, hB, hX, h0B, hnb, by simp (disch := first|exact dis|fail) only [go_sem, simprocAttr, ↓EU_rg, k1], by simp (disch := first|exact dis|fail) only [go_sem, simprocAttr, ↓EU_rg, k3], by simp (disch := first|exact dis|fail) only [go_sem, simprocAttr, ↓EU_rg, k4], by simp (disch := first|exact dis|fail) only [go_sem, simprocAttr, ↓EU_rg, k5], by simp (disch := first|exact dis|fail) only [go_sem, simprocAttr, ↓EU_rg, k6], by simp (disch := first|exact dis|fail) only [go_sem, simprocAttr, ↓EU_rg, k7]⟩
      | false =>
       simp (disch := first|exact dis|fail) only [go_sem, simprocAttr, ↓EU_rg, k1, k3, k4, k5, k6, k7, hX, o2, rwGood_ev, d]
       repeat refine WPo_ob ?_
       have hlit := OW.lit fltE_len h' [(⟨3, x.id⟩ : Flt)]
       rw [List.flatMap_cons, List.flatMap_nil, List.append_nil] at hlit
       unfold fltE at hlit
       refine append_gr (l := A2) (l' := [(⟨3, x.id⟩ : Flt)]) fc_ap_62_62 fltE_len (by decide) fltE_scal (hov.ext ((Ext.refl h').push _)) hlit.sl (by simp only [List.length_append, List.length_cons, List.length_nil]; omega) (by simp only [List.length_append, List.length_cons, List.length_nil]; omega) fun v' h5 hov5 gr5 => ?_
       simp (disch := first|exact dis|fail) only [go_sem, simprocAttr, ↓EU_rg, k1, k3, k4, k5, k6, k7, hX]
       exact ⟨_, _, _, rfl, by rw [ifF_t]; exact hov5, (gr.push _).trans gr5, by have := gr5.le; rw [next_push] at this; omega, by rw [gr5.old _ (by rw [next_push]; omega) hnb, get_push_old _ hB]; exact hX, h0B, (fun q => by rcases gr5.src _ q with q | q; exact hnb q; rw [next_push] at q; omega), by simp (disch := first|exact dis|fail) only [go_sem, simprocAttr, ↓EU_rg, k1], by simp (disch := first|exact dis|fail) only [go_sem, simprocAttr, ↓EU_rg], by simp (disch := first|exact dis|fail) only [go_sem, simprocAttr, ↓EU_rg, k4], by simp (disch := first|exact dis|fail) only [go_sem, simprocAttr, ↓EU_rg, k5], by simp (disch := first|exact dis|fail) only [go_sem, simprocAttr, ↓EU_rg, k6], by simp (disch := first|exact dis|fail) only [go_sem, simprocAttr, ↓EU_rg, k7]⟩
     ·generalize hA3 : A2 ++ ifF (!wgood x.w) ⟨3, x.id⟩ = A3
      have la3 : A3.length ≤ 4 * i + 3 := by rw [← hA3, List.length_append]; omega
      clear k1 k3 k4 k5 k6 k7 hov hX hB hnb gr o2 h0B
      rintro _ ⟨tm, h', u, rfl, hov, gr, hB, hX, h0B, hnb, k1, k3, k4, k5, k6, k7⟩
      have o2 := hF gr
      obtain ⟨av, kv, rfl⟩ := hov.val
      simp (disch := first|exact dis|fail) only [go_sem, simprocAttr]
      refine WPo_ob ?_
      refine WPo.mono (Q := bst h.next B h0 i (decide (cur = -1) || (l.take i).any (byId cur)) (decide ((l.length : Int) = 0) || (l.take i).any lagOk) x (A3 ++ ifF (lagBad x) ⟨4, x.id⟩)) ?_ ?_
      ·cases d1 : decide (x.lag < -1125899906842624) with
       | true =>
        have hb : lagBad x = true := by unfold lagBad; rw [d1]; rfl
        rw [hb]
        simp (disch := first|exact dis|fail) only [go_sem, simprocAttr, ↓EU_rg, k1, k3, k4, k5, k6, k7, hX, o2, d1]
        repeat refine WPo_ob ?_
        have hlit := OW.lit fltE_len h' [(⟨4, x.id⟩ : Flt)]
        rw [List.flatMap_cons, List.flatMap_nil, List.append_nil] at hlit
        unfold fltE at hlit
        refine append_gr (l := A3) (l' := [(⟨4, x.id⟩ : Flt)]) fc_ap_62_62 fltE_len (by decide) fltE_scal (hov.ext ((Ext.refl h').push _)) hlit.sl (by simp only [List.length_append, List.length_cons, List.length_nil]; omega) (by simp only [List.length_append, List.length_cons, List.length_nil]; omega) fun v' h5 hov5 gr5 => ?_
        simp (disch := first|exact dis|fail) only [go_sem, simprocAttr, ↓EU_rg, k1, k3, k4, k5, k6, k7, hX]
        exact ⟨_, _, _, rfl, by rw [ifF_t]; exact hov5, (gr.push _).trans gr5, by have := gr5.le; rw [next_push] at this; omega, by rw [gr5.old _ (by rw [next_push]; omega) hnb, get_push_old _ hB]; exact hX, h0B, (fun q => by rcases gr5.src _ q with q | q; exact hnb q; rw [next_push] at q; omega), by simp (disch := first|exact dis|fail) only [go_sem, simprocAttr, ↓EU_rg, k1], by simp (disch := first|exact dis|fail) only [go_sem, simprocAttr, ↓EU_rg], by simp (disch := first|exact dis|fail) only [go_sem, simprocAttr, ↓EU_rg, k4], by simp (disch := first|exact dis|fail) only [go_sem, simprocAttr, ↓EU_rg, k5], by simp (disch := first|exact dis|fail) only [go_sem, simprocAttr, ↓EU_rg, k6], by simp (disch := first|exact dis|fail) only [go_sem, simprocAttr, ↓EU_rg, k7]⟩
       | false =>
        cases d2 : decide (1125899906842624 < x.lag) with
        | true =>
         have hb : lagBad x = true := by unfold lagBad; rw [d1, d2]; rfl
         rw [hb]
         simp (disch := first|exact dis|fail) only [go_sem, simprocAttr, ↓EU_rg, k1, k3, k4, k5, k6, k7, hX, o2, d1, d2]
         repeat refine WPo_ob ?_
         have hlit := OW.lit fltE_len h' [(⟨4, x.id⟩ : Flt)]
         rw [List.flatMap_cons, List.flatMap_nil, List.append_nil] at hlit
         unfold fltE at hlit
         refine append_gr (l := A3) (l' := [(⟨4, x.id⟩ : Flt)]) fc_ap_62_62 fltE_len (by decide) fltE_scal (hov.ext ((Ext.refl h').push _)) hlit.sl (by simp only [List.length_append, List.length_cons, List.length_nil]; omega) (by simp only [List.length_append, List.length_cons, List.length_nil]; omega) fun v' h5 hov5 gr5 => ?_
         simp (disch := first|exact dis|fail) only [go_sem, simprocAttr, ↓EU_rg, k1, k3, k4, k5, k6, k7, hX]
         exact ⟨_, _, _, rfl, by rw [ifF_t]; exact hov5, (gr.push _).trans gr5, by have := gr5.le; rw [next_push] at this; omega, by rw [gr5.old _ (by rw [next_push]; omega) hnb, get_push_old _ hB]; exact hX, h0B, (fun q => by rcases gr5.src _ q with q | q; exact hnb q; rw [next_push] at q; omega), by simp (disch := first|exact dis|fail) only [go_sem, simprocAttr, ↓EU_rg, k1], by simp (disch := first|exact dis|fail) only [go_sem, simprocAttr, ↓EU_rg], by simp (disch := first|exact dis|fail) only [go_sem, simprocAttr, ↓EU_rg, k4], by simp (disch := first|exact dis|fail) only [go_sem, simprocAttr, ↓EU_rg, k5], by simp (disch := first|exact dis|fail) only [go_sem, simprocAttr, ↓EU_rg, k6], by simp (disch := first|exact dis|fail) only [go_sem, simprocAttr, ↓EU_rg, k7]⟩
        | false =>
         have hb : lagBad x = false := by unfold lagBad; rw [d1, d2]; rfl
         rw [hb]
         simp (disch := first|exact dis|fail) only [go_sem, simprocAttr, ↓EU_rg, k1, k3, k4, k5, k6, k7, hX, o2, d1, d2]
         exact ⟨_, _, _, rfl, by rw [ifF_f, List.append_nil]; exact hov, gr, hB, hX, h0B, hnb, by simp (disch := first|exact dis|fail) only [go_sem, simprocAttr, ↓EU_rg, k1], by simp (disch := first|exact dis|fail) only [go_sem, simprocAttr, ↓EU_rg, k3], by simp (disch := first|exact dis|fail) only [go_sem, simprocAttr, ↓EU_rg, k4], by simp (disch := first|exact dis|fail) only [go_sem, simprocAttr, ↓EU_rg, k5], by simp (disch := first|exact dis|fail) only [go_sem, simprocAttr, ↓EU_rg, k6], by simp (disch := first|exact dis|fail) only [go_sem, simprocAttr, ↓EU_rg, k7]⟩
      ·generalize hA4 : A3 ++ ifF (lagBad x) ⟨4, x.id⟩ = A4
       have la4 : A4.length ≤ 4 * i + 4 := by rw [← hA4, List.length_append]; omega
       clear k1 k3 k4 k5 k6 k7 hov hX hB hnb gr o2 h0B
       rintro _ ⟨tm, h', u, rfl, hov, gr, hB, hX, h0B, hnb, k1, k3, k4, k5, k6, k7⟩
       have o2 := hF gr
       obtain ⟨av, kv, rfl⟩ := hov.val
       have hgo4 : fGo none l = A4 ++ fGo (prevAt l (i + 1)) (l.drop (i + 1)) := by
        have hp1 : prevAt l (i + 1) = some x := by unfold prevAt; rw [if_neg (by omega), Nat.add_sub_cancel, hx]
        rw [hp1, hgo2, ← hA4, ← hA3, ← hA2, ← hA]
        simp only [List.append_assoc]
       have hwi : wrapF .i64 ((i : Int) + 1) = ((i + 1 : Nat) : Int) := by rw [wrap64 (by omega)]; omega
       have t1 : (decide (cur = -1) || (l.take (i + 1)).any (byId cur)) = ((decide (cur = -1) || (l.take i).any (byId cur)) || decide (x.id = cur)) := by rw [take_any _ hx, ← Bool.or_assoc]; rfl
       have t2 : (decide ((l.length : Int) = 0) || (l.take (i + 1)).any lagOk) = ((decide ((l.length : Int) = 0) || (l.take i).any lagOk) || decide (x.lag ≥ 0)) := by rw [take_any _ hx, ← Bool.or_assoc]; rfl
       generalize (decide (cur = -1) || (l.take i).any (byId cur)) = cu at *
       generalize (decide ((l.length : Int) = 0) || (l.take i).any lagOk) = fr at *
       cases cu <;> cases fr
       all_goals
        simp (disch := first|exact dis|fail) only [go_sem, simprocAttr, ↓EU_rg, k1, k3, k4, k5, k6, k7, hX, o2, hwi]
        exact ⟨_, by omega, i + 1, _, _, _, A4, rfl, rfl, by omega, by simp (disch := first|exact dis|fail) only [go_sem, simprocAttr, ↓EU_rg, k1], by simp (disch := first|exact dis|fail) only [go_sem, simprocAttr, ↓EU_rg, k3], by simp (disch := first|exact dis|fail) only [go_sem, simprocAttr, ↓EU_rg]; rw [t1]; rfl, by simp (disch := first|exact dis|fail) only [go_sem, simprocAttr, ↓EU_rg]; rw [t2]; rfl, by simp (disch := first|exact dis|fail) only [go_sem, simprocAttr, ↓EU_rg], hov, gr, by omega, hgo4⟩
  ·simp only [decide_eq_false_iff_not] at b1
   have : i = l.length := by omega
   subst this
   rw [List.take_length] at k4 k5
   have he : fGo none l = acc := by
    rw [hgo, List.drop_length]
    cases prevAt l l.length <;> simp [fGo]
   subst he
   simp (disch := first|exact dis|fail) only [go_sem, simprocAttr, ↓EU_rg]
   exact ⟨_, _, _, rfl, trivial, by simp (disch := first|exact dis|fail) only [go_sem, simprocAttr, ↓EU_rg, k1], by simp (disch := first|exact dis|fail) only [go_sem, simprocAttr, ↓EU_rg, k3], by simp (disch := first|exact dis|fail) only [go_sem, simprocAttr, ↓EU_rg, k4], by simp (disch := first|exact dis|fail) only [go_sem, simprocAttr, ↓EU_rg, k5], hov, gr⟩
 ·exact ⟨0, _, _, _, [], rfl, rfl, by omega, by simp (disch := first|exact dis|fail) only [go_sem, simprocAttr, ↓EU_rg], by simp (disch := first|exact dis|fail) only [go_sem, simprocAttr, ↓EU_rg], by simp (disch := first|exact dis|fail) only [go_sem, simprocAttr, ↓EU_rg, hF0]; simp, by simp (disch := first|exact dis|fail) only [go_sem, simprocAttr, ↓EU_rg, hF0]; simp, by simp (disch := first|exact dis|fail) only [go_sem, simprocAttr, ↓EU_rg]; all_goals rfl, OW.nil, Gr.refl _ _, by simp, rfl⟩
 ·omega
 ·rintro ⟨q, _⟩ ⟨tm, h2, u, rfl, rfl, g1, g3, g4, g5, hov, gr⟩
  have hF : ∀ {u : Value} {h' : Heap}, Gr (.slice none 0 1) h0 u h' → h'.get h.next = .cells [.int .i64 cur, .slice a l.length c] 0 := fun g => (g.old _ (by omega) (nil_blk _ _ _)).trans hF0
  have hgl := fGo_len none l
  have o2 := hF gr
  obtain ⟨av, kv, rfl⟩ := hov.val
  simp (disch := first|exact dis|fail) only [go_sem, simprocAttr, ↓EU_rg, g1, g3, g4, g5, o2]
  repeat refine WPo_ob ?_
  refine WPo.mono (Q := fun q => ∃ tm' h3 u3, q = (.normal, ⟨tm', h3, []⟩) ∧ OW fltE 2 h3 u3 (fGo none l ++ ifF (decide (64 < (l.length : Int))) ⟨5, l.length⟩) ∧ Gr (.slice none 0 1) h0 u3 h3 ∧ Fr.get tm' 1 = ptr h.next 0 ∧ Fr.get tm' 3 = u3 ∧ Fr.get tm' 4 = .bool (decide (cur = -1) || l.any (byId cur)) ∧ Fr.get tm' 5 = .bool (decide ((l.length : Int) = 0) || l.any lagOk)) ?_ ?_
  ·((repeat refine WPo_ob ?_); (first | refine WPo_cond (fun b1 => ?_) (fun b1 => ?_) | refine WPo_gard (fun b1 => ?_) (fun b1 => ?_) | refine WPo_gardT (fun b1 => ?_) (fun b1 => ?_)) <;> (try simp only [Bool.not_eq_true', Bool.not_eq_false'] at b1))
   ·simp (disch := first|exact dis|fail) only [go_sem, simprocAttr, ↓EU_rg, b1, g1, g3, g4, g5, o2]
    rw [ifF_t]
    repeat refine WPo_ob ?_
    have hlit := OW.lit fltE_len h2 [(⟨5, l.length⟩ : Flt)]
    rw [List.flatMap_cons, List.flatMap_nil, List.append_nil] at hlit
    unfold fltE at hlit
    refine append_gr (l := fGo none l) (l' := [(⟨5, l.length⟩ : Flt)]) fc_ap_62_62 fltE_len (by decide) fltE_scal (hov.ext ((Ext.refl h2).push _)) hlit.sl (by simp only [List.length_append, List.length_cons, List.length_nil]; omega) (by simp only [List.length_append, List.length_cons, List.length_nil]; omega) fun v' h5 hov5 gr5 => ?_
    simp (disch := first|exact dis|fail) only [go_sem, simprocAttr, ↓EU_rg, b1, g1, g3, g4, g5]
    exact ⟨_, _, _, rfl, hov5, (gr.push _).trans gr5, by simp (disch := first|exact dis|fail) only [go_sem, simprocAttr, ↓EU_rg, g1], by simp (disch := first|exact dis|fail) only [go_sem, simprocAttr, ↓EU_rg], by simp (disch := first|exact dis|fail) only [go_sem, simprocAttr, ↓EU_rg, g4], by simp (disch := first|exact dis|fail) only [go_sem, simprocAttr, ↓EU_rg, g5]⟩
   ·simp (disch := first|exact dis|fail) only [go_sem, simprocAttr, ↓EU_rg, b1]
    rw [ifF_f]
    exact ⟨_, _, _, rfl, by rw [List.append_nil]; exact hov, gr, by simp (disch := first|exact dis|fail) only [go_sem, simprocAttr, ↓EU_rg, g1], by simp (disch := first|exact dis|fail) only [go_sem, simprocAttr, ↓EU_rg, g3], by simp (disch := first|exact dis|fail) only [go_sem, simprocAttr, ↓EU_rg, g4], by simp (disch := first|exact dis|fail) only [go_sem, simprocAttr, ↓EU_rg, g5]⟩
  ·clear g1 g3 g4 g5 o2
   have hl5 := ifF_len (decide (64 < (l.length : Int))) ⟨5, l.length⟩
   generalize hA : fGo none l ++ ifF (decide (64 < (l.length : Int))) ⟨5, l.length⟩ = A5
   have hA5 : A5.length ≤ 4 * l.length + 1 := by rw [← hA, List.length_append]; omega
   rintro _ ⟨tm', h3, u3, rfl, hov3, gr3, g1, g3, g4, g5⟩
   have o3 := hF gr3
   obtain ⟨av3, kv3, rfl⟩ := hov3.val
   have e6 : (!l.any (byId cur) && !decide (cur = -1)) = !(decide (cur = -1) || l.any (byId cur)) := by cases l.any (byId cur) <;> cases decide (cur = -1) <;> rfl
   have e7 : (decide ((l.length : Int) > 0) && l.all neg) = !(decide ((l.length : Int) = 0) || l.any lagOk) := by
    have h1 : l.all neg = !l.any lagOk := by
     rw [List.all_eq_not_any_not]
     congr 2
     funext x
     unfold neg lagOk
     by_cases h : x.lag < 0 <;> simp [h] <;> omega
    have h2 : decide ((l.length : Int) > 0) = !decide ((l.length : Int) = 0) := by
     by_cases h : l.length = 0
     ·rw [decide_eq_false (by omega : ¬ (l.length : Int) > 0), decide_eq_true (by omega : (l.length : Int) = 0)]; rfl
     ·rw [decide_eq_true (by omega : (l.length : Int) > 0), decide_eq_false (by omega : ¬ (l.length : Int) = 0)]; rfl
    rw [h1, h2]
    cases decide ((l.length : Int) = 0) <;> cases l.any lagOk <;> rfl
   have hfin : formF cur l = (A5 ++ ifF (!(decide (cur = -1) || l.any (byId cur))) ⟨6, cur⟩) ++ ifF (!(decide ((l.length : Int) = 0) || l.any lagOk)) ⟨7, -1⟩ := by rw [← hA, ← e6, ← e7]; rfl
   rw [hfin]
   clear hfin e6 e7 hA
   generalize (decide (cur = -1) || l.any (byId cur)) = cu at *
   generalize (decide ((l.length : Int) = 0) || l.any lagOk) = fr at *
   simp (disch := first|exact dis|fail) only [go_sem, simprocAttr, ↓EU_rg, g1, g3, g4]
   refine WPo_ob ?_
   refine WPo.mono (Q := fun q => ∃ tm' h5 u5, q = (.normal, ⟨tm', h5, []⟩) ∧ OW fltE 2 h5 u5 (A5 ++ ifF (!cu) ⟨6, cur⟩) ∧ Gr (.slice none 0 1) h0 u5 h5 ∧ Fr.get tm' 3 = u5 ∧ Fr.get tm' 5 = .bool fr) ?_ ?_
   ·cases cu with
    | true =>
     simp (disch := first|exact dis|fail) only [go_sem, simprocAttr, ↓EU_rg, g1, g3, g4, g5, o3]
     exact ⟨_, _, _, rfl, by rw [ifF_f, List.append_nil]; exact hov3, gr3, by simp (disch := first|exact dis|fail) only [go_sem, simprocAttr, ↓EU_rg, g3], by simp (disch := first|exact dis|fail) only [go_sem, simprocAttr, ↓EU_rg, g5]⟩
    | false =>
     simp (disch := first|exact dis|fail) only [go_sem, simprocAttr, ↓EU_rg, g1, g3, g4, g5, o3]
     repeat refine WPo_ob ?_
     have hlit := OW.lit fltE_len h3 [(⟨6, cur⟩ : Flt)]
     rw [List.flatMap_cons, List.flatMap_nil, List.append_nil] at hlit
     unfold fltE at hlit
     refine append_gr (l := A5) (l' := [(⟨6, cur⟩ : Flt)]) fc_ap_62_62 fltE_len (by decide) fltE_scal (hov3.ext ((Ext.refl h3).push _)) hlit.sl (by simp only [List.length_append, List.length_cons, List.length_nil]; omega) (by simp only [List.length_append, List.length_cons, List.length_nil]; omega) fun v' h5 hov5 gr5 => ?_
     simp (disch := first|exact dis|fail) only [go_sem, simprocAttr, ↓EU_rg, g1, g3, g4, g5]
     exact ⟨_, _, _, rfl, by rw [ifF_t]; exact hov5, (gr3.push _).trans gr5, by simp (disch := first|exact dis|fail) only [go_sem, simprocAttr, ↓EU_rg], by simp (disch := first|exact dis|fail) only [go_sem, simprocAttr, ↓EU_rg, g5]⟩
   ·clear g1 g3 g4 g5 o3
    have hl6 := ifF_len (!cu) ⟨6, cur⟩
    generalize hB : A5 ++ ifF (!cu) ⟨6, cur⟩ = A6
    have hA6 : A6.length ≤ 4 * l.length + 2 := by rw [← hB, List.length_append]; omega
    rintro _ ⟨tm5, h6, u6, rfl, hov6, gr6, g3, g5⟩
    obtain ⟨av6, kv6, rfl⟩ := hov6.val
    cases fr with
    | false =>
     simp (disch := first|exact dis|fail) only [go_sem, simprocAttr, ↓EU_rg, g3, g5]
     rw [ifF_t]
     repeat refine WPo_ob ?_
     have hlit := OW.lit fltE_len h6 [(⟨7, -1⟩ : Flt)]
     rw [List.flatMap_cons, List.flatMap_nil, List.append_nil] at hlit
     unfold fltE at hlit
     refine append_gr (l := A6) (l' := [(⟨7, -1⟩ : Flt)]) fc_ap_62_62 fltE_len (by decide) fltE_scal (hov6.ext ((Ext.refl h6).push _)) hlit.sl (by simp only [List.length_append, List.length_cons, List.length_nil]; omega) (by simp only [List.length_append, List.length_cons, List.length_nil]; omega) fun v' h5 hov5 gr5 => ?_
     have grf := (gr6.push (.cells [.int .i64 7, .int .i64 (-1)] 2)).trans gr5
     obtain ⟨av7, kv7, rfl⟩ := hov5.val
     simp (disch := first|exact dis|fail) only [go_sem, simprocAttr, ↓EU_rg]
     exact ⟨hov5, by have := Fresh.gr grf (nil_blk _ _); rw [hn0] at this; exact this.mono (by omega), x0.trans (grf.ext0 (Ext.refl _) (Fresh.nil _ _ _))⟩
    | true =>
     simp (disch := first|exact dis|fail) only [go_sem, simprocAttr, ↓EU_rg, g3, g5]
     rw [ifF_f, List.append_nil]
     exact ⟨hov6, by have := Fresh.gr gr6 (nil_blk _ _); rw [hn0] at this; exact this.mono (by omega), x0.trans (gr6.ext0 (Ext.refl _) (Fresh.nil _ _ _))⟩
end Go.Proofs.YtddgcakiceodgaaGreat.EV
