/- StagePlays: Force, a run. No condition. A row of owed.Items, read. No condition. A row of Acts of chapter 22, read. No condition. StagePlays, plainly. No condition. StagePlays answers true, whatever comes in; no condition beyond the given row's. Out of the plain theorem of YtddgcakiceodgaaGreatLawSPlays, by a program of this session. -/
import Derived.Test.YtddgcakiceodgaaGreatM22
import Derived.Test.YtddgcakiceodgaaGreatM10
import Derived.Test.YtddgcakiceodgaaGreatM20
import Derived.Lib.SmallJoins
import Derived.Test.YtddgcakiceodgaaGreatRows
import Derived.WalkKit
import Derived.ProofKit
import Derived.OpenShut
import Derived.ShutString
import Derived.ChangeOld
import Derived.Below
import Derived.SizedLaws
namespace Go.Proofs.YtddgcakiceodgaaGreat.EV
open Go Go.Proofs
set_option linter.unusedVariables false
set_option linter.unusedSimpArgs false
set_option maxRecDepth 100000
section
variable {cb tb : Nat} {tag to : Int} {sl : Value} {i : Nat} {s : PSt} {h h6 : Heap} {tm : Fr} {x : Act22} {b20 : Nat}
set_option maxHeartbeats 4000000 in
theorem act_force (a : AC cb tb tag to sl i s h h6 tm x b20) (c0 : x.op ≠ 0) (c1 : x.op ≠ 1) (c2 : x.op ≠ 2) (c3 : x.op ≠ 3) (c4 : x.op = 4) : WPo (EU Tryz.prog O0 [46, 79] none 348 actC ⟨tm, h6, []⟩) (MIDQ h.next cb tb tag to sl i h) := by
 rw [EU_at Tryz.func6 rfl]
 simp only [goC]
 obtain ⟨⟨g0, g2, g3, g9, g10, g12, g14, g15, g16, g17, g18, g19⟩, k6, x6, g20, hA, hn6, htb20, hbv20, hi, htg, hto⟩ := a
 have htb : h.next ≤ tb := k6.lo tb (.inr (.inl rfl))
 have h3f := x6.le
 have de : decide ((s.at' : Int) = (s.at' : Int)) = true := decide_eq_true rfl
 have dw : decide (s.why = s.why) = true := decide_eq_true rfl
 have dn0 : decide (x.op = 0) = false := decide_eq_false c0
 have dn1 : decide (x.op = 1) = false := decide_eq_false c1
 have dn2 : decide (x.op = 2) = false := decide_eq_false c2
 have dn3 : decide (x.op = 3) = false := decide_eq_false c3
 have dn4 : decide (x.op = 4) = true := decide_eq_true c4
 have hFo := force_ev k6.ph.tg x.at' (by omega)
 by_cases cc : s.at' < 5 ∧ 1 ≤ x.at' ∧ x.at' ≤ 5 ∧ (s.at' : Int) < x.at'
 ·obtain ⟨cc1, cc2, cc3, cc4⟩ := cc
  have f1 : decide ((s.at' : Int) < 5) = true := decide_eq_true (by omega)
  have f2 : decide (1 ≤ x.at') = true := decide_eq_true cc2
  have f3 : decide (x.at' ≤ 5) = true := decide_eq_true cc3
  have f4 : decide ((s.at' : Int) < x.at') = true := decide_eq_true cc4
  have hcan : canForce (s.at' : Int) x.at' = true := by unfold canForce; rw [f1, f2, f3, f4]; rfl
  rw [hcan, if_pos rfl, force_or] at hFo
  have hfr := k6.fr
  have hk : x.at' = 1 ∨ x.at' = 2 ∨ x.at' = 3 ∨ x.at' = 4 ∨ x.at' = 5 := by omega
  rcases hk with e | e | e | e | e
  ·have e' := e
   rw [e] at hFo hA f2 f3 f4
   have hsh : ∀ t x y, evBin Tryz.prog .shl t x y (.int .i64 1) (.int .u64 1) = some (.int .i64 2) := fun t x y => bin_shl64 Tryz.prog t x y (k := .i64) (j := .u64) (a := 1) (b := 1) (by decide)
   have wu : wrapF .u64 1 = 1 := rfl
   have hor : ∀ t x y, evBin Tryz.prog .or t x y (.int .i64 (s.frc : Int)) (.int .i64 2) = some (.int .i64 ((s.frc ||| 2 : Nat) : Int)) := fun t x y => or_i64 Tryz.prog t x y (n := s.frc) (m := 2) hfr (by decide)
   have hlt : s.frc ||| 2 < 64 := Nat.or_lt_two_pow (n := 6) hfr (by decide)
   have k7 := k6.try_ (setM h6 tb (.cells (tryL cb to 0 (s.at' : Int) s.why s.tage s.bv s.qv fun j => (s.frc ||| 2 ^ (1 : Int).toNat).testBit j) 0)) s.why s.at' s.tage (s.frc ||| 2) s.stale (get_set_same _ _ _) rfl k6.a6 hlt ⟨k6.ag.1.1, k6.ag.1.2.1⟩ k6.sta k6.wy (fun _ => ⟨rfl, rfl⟩)
   simp (maxSteps := 9000000) (disch := first|exact dis|fail) only [go_sem, simprocAttr, ↓EU_rg, g20, hA, g0, g2, g3, g9, g10, g12, g14, g15, g16, g17, g18, g19, dn0, dn1, dn2, dn3, dn4, hA, f1, f2, f3, f4, hFo, hsh, wu, hor, bne_self_eq_false]
   exact ⟨_, _, { s with frc := s.frc ||| 2 }, rfl, (by (constructor <;> simp (maxSteps := 9000000) (disch := first|exact dis|fail) only [go_sem, simprocAttr, ↓EU_rg, g20, hA, g0, g2, g3, g9, g10, g12, g14, g15, g16, g17, g18, g19, f1]); all_goals rfl), k7.up, extM x6 (setM _ _ _) (fun j e => by subst e; exact htb)⟩
  ·have e' := e
   rw [e] at hFo hA f2 f3 f4
   have hsh : ∀ t x y, evBin Tryz.prog .shl t x y (.int .i64 1) (.int .u64 2) = some (.int .i64 4) := fun t x y => bin_shl64 Tryz.prog t x y (k := .i64) (j := .u64) (a := 1) (b := 2) (by decide)
   have wu : wrapF .u64 2 = 2 := rfl
   have hor : ∀ t x y, evBin Tryz.prog .or t x y (.int .i64 (s.frc : Int)) (.int .i64 4) = some (.int .i64 ((s.frc ||| 4 : Nat) : Int)) := fun t x y => or_i64 Tryz.prog t x y (n := s.frc) (m := 4) hfr (by decide)
   have hlt : s.frc ||| 4 < 64 := Nat.or_lt_two_pow (n := 6) hfr (by decide)
   have k7 := k6.try_ (setM h6 tb (.cells (tryL cb to 0 (s.at' : Int) s.why s.tage s.bv s.qv fun j => (s.frc ||| 2 ^ (2 : Int).toNat).testBit j) 0)) s.why s.at' s.tage (s.frc ||| 4) s.stale (get_set_same _ _ _) rfl k6.a6 hlt ⟨k6.ag.1.1, k6.ag.1.2.1⟩ k6.sta k6.wy (fun _ => ⟨rfl, rfl⟩)
   simp (maxSteps := 9000000) (disch := first|exact dis|fail) only [go_sem, simprocAttr, ↓EU_rg, g20, hA, g0, g2, g3, g9, g10, g12, g14, g15, g16, g17, g18, g19, dn0, dn1, dn2, dn3, dn4, hA, f1, f2, f3, f4, hFo, hsh, wu, hor, bne_self_eq_false]
   exact ⟨_, _, { s with frc := s.frc ||| 4 }, rfl, (by (constructor <;> simp (maxSteps := 9000000) (disch := first|exact dis|fail) only [go_sem, simprocAttr, ↓EU_rg, g20, hA, g0, g2, g3, g9, g10, g12, g14, g15, g16, g17, g18, g19, f1]); all_goals rfl), k7.up, extM x6 (setM _ _ _) (fun j e => by subst e; exact htb)⟩
  ·have e' := e
   rw [e] at hFo hA f2 f3 f4
   have hsh : ∀ t x y, evBin Tryz.prog .shl t x y (.int .i64 1) (.int .u64 3) = some (.int .i64 8) := fun t x y => bin_shl64 Tryz.prog t x y (k := .i64) (j := .u64) (a := 1) (b := 3) (by decide)
   have wu : wrapF .u64 3 = 3 := rfl
   have hor : ∀ t x y, evBin Tryz.prog .or t x y (.int .i64 (s.frc : Int)) (.int .i64 8) = some (.int .i64 ((s.frc ||| 8 : Nat) : Int)) := fun t x y => or_i64 Tryz.prog t x y (n := s.frc) (m := 8) hfr (by decide)
   have hlt : s.frc ||| 8 < 64 := Nat.or_lt_two_pow (n := 6) hfr (by decide)
   have k7 := k6.try_ (setM h6 tb (.cells (tryL cb to 0 (s.at' : Int) s.why s.tage s.bv s.qv fun j => (s.frc ||| 2 ^ (3 : Int).toNat).testBit j) 0)) s.why s.at' s.tage (s.frc ||| 8) s.stale (get_set_same _ _ _) rfl k6.a6 hlt ⟨k6.ag.1.1, k6.ag.1.2.1⟩ k6.sta k6.wy (fun _ => ⟨rfl, rfl⟩)
   simp (maxSteps := 9000000) (disch := first|exact dis|fail) only [go_sem, simprocAttr, ↓EU_rg, g20, hA, g0, g2, g3, g9, g10, g12, g14, g15, g16, g17, g18, g19, dn0, dn1, dn2, dn3, dn4, hA, f1, f2, f3, f4, hFo, hsh, wu, hor, bne_self_eq_false]
   exact ⟨_, _, { s with frc := s.frc ||| 8 }, rfl, (by (constructor <;> simp (maxSteps := 9000000) (disch := first|exact dis|fail) only [go_sem, simprocAttr, ↓EU_rg, g20, hA, g0, g2, g3, g9, g10, g12, g14, g15, g16, g17, g18, g19, f1]); all_goals rfl), k7.up, extM x6 (setM _ _ _) (fun j e => by subst e; exact htb)⟩
  ·have e' := e
   rw [e] at hFo hA f2 f3 f4
   have hsh : ∀ t x y, evBin Tryz.prog .shl t x y (.int .i64 1) (.int .u64 4) = some (.int .i64 16) := fun t x y => bin_shl64 Tryz.prog t x y (k := .i64) (j := .u64) (a := 1) (b := 4) (by decide)
   have wu : wrapF .u64 4 = 4 := rfl
   have hor : ∀ t x y, evBin Tryz.prog .or t x y (.int .i64 (s.frc : Int)) (.int .i64 16) = some (.int .i64 ((s.frc ||| 16 : Nat) : Int)) := fun t x y => or_i64 Tryz.prog t x y (n := s.frc) (m := 16) hfr (by decide)
   have hlt : s.frc ||| 16 < 64 := Nat.or_lt_two_pow (n := 6) hfr (by decide)
   have k7 := k6.try_ (setM h6 tb (.cells (tryL cb to 0 (s.at' : Int) s.why s.tage s.bv s.qv fun j => (s.frc ||| 2 ^ (4 : Int).toNat).testBit j) 0)) s.why s.at' s.tage (s.frc ||| 16) s.stale (get_set_same _ _ _) rfl k6.a6 hlt ⟨k6.ag.1.1, k6.ag.1.2.1⟩ k6.sta k6.wy (fun _ => ⟨rfl, rfl⟩)
   simp (maxSteps := 9000000) (disch := first|exact dis|fail) only [go_sem, simprocAttr, ↓EU_rg, g20, hA, g0, g2, g3, g9, g10, g12, g14, g15, g16, g17, g18, g19, dn0, dn1, dn2, dn3, dn4, hA, f1, f2, f3, f4, hFo, hsh, wu, hor, bne_self_eq_false]
   exact ⟨_, _, { s with frc := s.frc ||| 16 }, rfl, (by (constructor <;> simp (maxSteps := 9000000) (disch := first|exact dis|fail) only [go_sem, simprocAttr, ↓EU_rg, g20, hA, g0, g2, g3, g9, g10, g12, g14, g15, g16, g17, g18, g19, f1]); all_goals rfl), k7.up, extM x6 (setM _ _ _) (fun j e => by subst e; exact htb)⟩
  ·have e' := e
   rw [e] at hFo hA f2 f3 f4
   have hsh : ∀ t x y, evBin Tryz.prog .shl t x y (.int .i64 1) (.int .u64 5) = some (.int .i64 32) := fun t x y => bin_shl64 Tryz.prog t x y (k := .i64) (j := .u64) (a := 1) (b := 5) (by decide)
   have wu : wrapF .u64 5 = 5 := rfl
   have hor : ∀ t x y, evBin Tryz.prog .or t x y (.int .i64 (s.frc : Int)) (.int .i64 32) = some (.int .i64 ((s.frc ||| 32 : Nat) : Int)) := fun t x y => or_i64 Tryz.prog t x y (n := s.frc) (m := 32) hfr (by decide)
   have hlt : s.frc ||| 32 < 64 := Nat.or_lt_two_pow (n := 6) hfr (by decide)
   have k7 := k6.try_ (setM h6 tb (.cells (tryL cb to 0 (s.at' : Int) s.why s.tage s.bv s.qv fun j => (s.frc ||| 2 ^ (5 : Int).toNat).testBit j) 0)) s.why s.at' s.tage (s.frc ||| 32) s.stale (get_set_same _ _ _) rfl k6.a6 hlt ⟨k6.ag.1.1, k6.ag.1.2.1⟩ k6.sta k6.wy (fun _ => ⟨rfl, rfl⟩)
   simp (maxSteps := 9000000) (disch := first|exact dis|fail) only [go_sem, simprocAttr, ↓EU_rg, g20, hA, g0, g2, g3, g9, g10, g12, g14, g15, g16, g17, g18, g19, dn0, dn1, dn2, dn3, dn4, hA, f1, f2, f3, f4, hFo, hsh, wu, hor, bne_self_eq_false]
   exact ⟨_, _, { s with frc := s.frc ||| 32 }, rfl, (by (constructor <;> simp (maxSteps := 9000000) (disch := first|exact dis|fail) only [go_sem, simprocAttr, ↓EU_rg, g20, hA, g0, g2, g3, g9, g10, g12, g14, g15, g16, g17, g18, g19, f1]); all_goals rfl), k7.up, extM x6 (setM _ _ _) (fun j e => by subst e; exact htb)⟩
 ·have hcan : canForce (s.at' : Int) x.at' = false := by
   unfold canForce
   simp only [Bool.and_eq_false_iff, decide_eq_false_iff_not]
   omega
  rw [hcan, if_neg (by decide)] at hFo
  by_cases e1 : s.at' < 5
  ·have f1 : decide ((s.at' : Int) < 5) = true := decide_eq_true (by omega)
   by_cases e2 : 1 ≤ x.at'
   ·have f2 : decide (1 ≤ x.at') = true := decide_eq_true e2
    by_cases e3 : x.at' ≤ 5
    ·have f3 : decide (x.at' ≤ 5) = true := decide_eq_true e3
     have f4 : decide ((s.at' : Int) < x.at') = false := decide_eq_false (by omega)
     simp (maxSteps := 9000000) (disch := first|exact dis|fail) only [go_sem, simprocAttr, ↓EU_rg, g20, hA, g0, g2, g3, g9, g10, g12, g14, g15, g16, g17, g18, g19, dn0, dn1, dn2, dn3, dn4, hA, f1, f2, f3, f4, hFo, bne_self_eq_false]
     exact ⟨_, _, s, rfl, (by (constructor <;> simp (maxSteps := 9000000) (disch := first|exact dis|fail) only [go_sem, simprocAttr, ↓EU_rg, g20, hA, g0, g2, g3, g9, g10, g12, g14, g15, g16, g17, g18, g19, f1]); all_goals rfl), k6.up, x6⟩
    ·have f3 : decide (x.at' ≤ 5) = false := decide_eq_false e3
     simp (maxSteps := 9000000) (disch := first|exact dis|fail) only [go_sem, simprocAttr, ↓EU_rg, g20, hA, g0, g2, g3, g9, g10, g12, g14, g15, g16, g17, g18, g19, dn0, dn1, dn2, dn3, dn4, hA, f1, f2, f3, hFo, bne_self_eq_false]
     exact ⟨_, _, s, rfl, (by (constructor <;> simp (maxSteps := 9000000) (disch := first|exact dis|fail) only [go_sem, simprocAttr, ↓EU_rg, g20, hA, g0, g2, g3, g9, g10, g12, g14, g15, g16, g17, g18, g19, f1]); all_goals rfl), k6.up, x6⟩
   ·have f2 : decide (1 ≤ x.at') = false := decide_eq_false e2
    simp (maxSteps := 9000000) (disch := first|exact dis|fail) only [go_sem, simprocAttr, ↓EU_rg, g20, hA, g0, g2, g3, g9, g10, g12, g14, g15, g16, g17, g18, g19, dn0, dn1, dn2, dn3, dn4, hA, f1, f2, hFo, bne_self_eq_false]
    exact ⟨_, _, s, rfl, (by (constructor <;> simp (maxSteps := 9000000) (disch := first|exact dis|fail) only [go_sem, simprocAttr, ↓EU_rg, g20, hA, g0, g2, g3, g9, g10, g12, g14, g15, g16, g17, g18, g19, f1]); all_goals rfl), k6.up, x6⟩
  ·have f1 : decide ((s.at' : Int) < 5) = false := decide_eq_false (by omega)
   simp (maxSteps := 9000000) (disch := first|exact dis|fail) only [go_sem, simprocAttr, ↓EU_rg, g20, hA, g0, g2, g3, g9, g10, g12, g14, g15, g16, g17, g18, g19, dn0, dn1, dn2, dn3, dn4, hA, f1, hFo, bne_self_eq_false]
   exact ⟨_, _, s, rfl, (by (constructor <;> simp (maxSteps := 9000000) (disch := first|exact dis|fail) only [go_sem, simprocAttr, ↓EU_rg, g20, hA, g0, g2, g3, g9, g10, g12, g14, g15, g16, g17, g18, g19, f1]); all_goals rfl), k6.up, x6⟩
set_option maxHeartbeats 4000000 in
theorem act_run (a : AC cb tb tag to sl i s h h6 tm x b20) (c0 : x.op ≠ 0) (c1 : x.op ≠ 1) (c2 : x.op ≠ 2) (c3 : x.op ≠ 3) (c4 : x.op ≠ 4) : WPo (EU Tryz.prog O0 [46, 79] none 348 actC ⟨tm, h6, []⟩) (MIDQ h.next cb tb tag to sl i h) := by
 rw [EU_at Tryz.func6 rfl]
 simp only [goC]
 obtain ⟨⟨g0, g2, g3, g9, g10, g12, g14, g15, g16, g17, g18, g19⟩, k6, x6, g20, hA, hn6, htb20, hbv20, hi, htg, hto⟩ := a
 have htb : h.next ≤ tb := k6.lo tb (.inr (.inl rfl))
 have h3f := x6.le
 have de : decide ((s.at' : Int) = (s.at' : Int)) = true := decide_eq_true rfl
 have dw : decide (s.why = s.why) = true := decide_eq_true rfl
 have dn0 : decide (x.op = 0) = false := decide_eq_false c0
 have dn1 : decide (x.op = 1) = false := decide_eq_false c1
 have dn2 : decide (x.op = 2) = false := decide_eq_false c2
 have dn3 : decide (x.op = 3) = false := decide_eq_false c3
 have dn4 : decide (x.op = 4) = false := decide_eq_false c4
 have p6 := k6.ph
 have hl6 := k6.lens
 obtain ⟨ss, hss⟩ := p6.cq.mp.s
 have htc : tgood (ctag tag to s.at') = true := by unfold ctag; split <;> assumption
 have hag := k6.ag
 simp (maxSteps := 9000000) (disch := first|exact dis|fail) only [go_sem, simprocAttr, ↓EU_rg, g20, hA, g0, g2, g3, g9, g10, g12, g14, g15, g16, g17, g18, g19, dn0, dn1, dn2, dn3, dn4]
 repeat refine WPo_ob ?_
 refine (coreRun_ev p6.cq hss (by omega) (k6.calm (by omega)) (by omega) (by omega)).mono ?_
 rintro ⟨w, h7⟩ ⟨e, cq7, _, m7⟩
 simp only at e cq7 m7
 subst e
 obtain ⟨tl7, tg7, ob7, or7, rq7⟩ := p6.run m7
 obtain ⟨hlg, hb1, hb2⟩ := run_LG k6.lg htc
 have hsome := pickI_some k6.lg htc
 have hP7 := rqpick_ev rq7 htc hl6 (fun p hp => (k6.lg.pt p hp).2.1) (fun p hp => by have := k6.lg.pt p hp; omega) (by have := k6.bs; omega)
 have hcalm := k6.calm (by omega)
 have hbs := k6.bs
 have hlo : ∀ j, j = cb ∨ j = s.mb ∨ j = s.lb ∨ blkOf s.v j → h.next ≤ j := fun j e => by
  rcases e with e | e | e | e
  ·exact k6.lo j (.inl e)
  ·exact k6.lo j (.inr (.inr (.inr (.inr (.inl e)))))
  ·exact k6.lo j (.inr (.inr (.inr (.inl e))))
  ·exact k6.lo j (.inr (.inr (.inr (.inr (.inr (.inr (.inl e)))))))
 have hlw : ∀ j, j = s.wb ∨ blkOf s.wv j → h.next ≤ j := fun j e => by
  rcases e with e | e
  ·exact k6.lo j (.inr (.inr (.inr (.inr (.inr (.inl e))))))
  ·exact k6.lo j (.inr (.inr (.inr (.inr (.inr (.inr (.inr (.inr (.inr e)))))))))
 have x7 := extM x6 m7 hlo
 generalize hcu : curR (ctag tag to s.at') s.cur s.l = cu at *
 simp (maxSteps := 9000000) (disch := first|exact dis|fail) only [go_sem, simprocAttr, ↓EU_rg, g20, hA, g0, g2, g3, g9, g10, g12, g14, g15, g16, g17, g18, g19, dn0, dn1]
 repeat refine WPo_ob ?_
 refine hP7.mono ?_
 rintro ⟨w, h8⟩ ⟨e, rq8, m8⟩
 simp only at e rq8 m8
 subst e
 have m8' : Mod (fun j => j = s.wb ∨ blkOf s.wv j) h7 h8 := m8.mono fun _ _ e => .inl e
 obtain ⟨cq8, tl8, tg8, ob8, or8⟩ := refKeep cq7 tl7 tg7 ob7 or7 rq7 p6.d1 m8'
 have x8 := extM x7 m8' hlw
 by_cases hl0 : s.l = []
 ·have hs0 : someP s.l = false := by rw [hl0]; rfl
  have hn0 : (nowI cu s.l).isSome = false := by rw [hl0]; rfl
  have hn1 : nowI cu s.l = none := by rw [hl0]; rfl
  have hrn : runN cu s.l = -1 := by unfold runN; rw [hn0]; rfl
  have e1 : chB s.base cu s.l = s.base := by unfold chB; rw [hn1]
  have e2 : chL cu s.l = s.l := by unfold chL; rw [hn1]
  rw [hs0, hrn]
  rw [e1, e2, hn0, if_neg (by decide)] at cq8
  rw [e1, e2] at hlg
  have k9 : KP h.next cb tb tag to (i + 1) { s with cur := cu, idle := s.idle + 1, age := s.age + 1, stale := true } h8 := by
   refine ⟨⟨cq8, tl8, tg8, ob8, or8, rq8, p6.d1, p6.d2⟩, k6.lo, hlg, ⟨hbs.1, ?_⟩, ⟨⟨hag.1.1, ?_, ?_⟩, ?_, ?_⟩, k6.a6, k6.fr, fun _ _ => ?_, k6.bl, k6.wy, fun _ h => (by cases h), fun _ h => (by cases h)⟩
   ·show s.base ≤ ((i + 1 : Nat) : Int) * 1125899906842624; omega
   ·show s.tage ≤ s.age + 1; omega
   ·show s.age + 1 ≤ ((i + 1 : Nat) : Int); omega
   ·show 0 ≤ s.idle + 1; omega
   ·show s.idle + 1 ≤ ((i + 1 : Nat) : Int); omega
   ·show true = !decide (s.age + 1 = s.tage)
    rw [decide_eq_false (by omega)]; rfl
  simp (maxSteps := 9000000) (disch := first|exact dis|fail) only [go_sem, simprocAttr, ↓EU_rg, g20, hA, g0, g2, g3, g9, g10, g12, g14, g15, g16, g17, g18, g19, dn0, dn1, if_false, Bool.false_eq_true, Int.reduceEq, decide_true]
  exact ⟨_, _, { s with cur := cu, idle := s.idle + 1, age := s.age + 1, stale := true }, rfl, (by (constructor <;> simp (maxSteps := 9000000) (disch := first|exact dis|fail) only [go_sem, simprocAttr, ↓EU_rg, g20, hA, g0, g2, g3, g9, g10, g12, g14, g15, g16, g17, g18, g19]); all_goals rfl), k9, x8⟩
 ·have hs1 : someP s.l = true := by
   unfold someP
   rw [decide_eq_false fun e => hl0 (List.length_eq_zero_iff.1 e)]; rfl
  have hnow := hsome hl0
  have hC8 := rqcharge_ev rq8 (by omega) hcalm
  rw [hs1]
  have hrn : runN cu s.l = chN cu s.l := by unfold runN; rw [if_pos hnow]
  rw [hrn]
  simp (maxSteps := 9000000) (disch := first|exact dis|fail) only [go_sem, simprocAttr, ↓EU_rg, g20, hA, g0, g2, g3, g9, g10, g12, g14, g15, g16, g17, g18, g19, dn0, dn1, if_true]
  repeat refine WPo_ob ?_
  refine hC8.mono ?_
  rintro ⟨w, h9⟩ ⟨e, rq9, m9⟩
  simp only at e rq9 m9
  subst e
  obtain ⟨cq9, tl9, tg9, ob9, or9⟩ := refKeep cq8 tl8 tg8 ob8 or8 rq8 p6.d1 m9
  have x9 := extM x8 m9 hlw
  have d9 : decide (chN cu s.l = chN cu s.l) = true := decide_eq_true rfl
  rw [if_pos hnow] at cq9
  have k9 : KP h.next cb tb tag to (i + 1) { s with base := chB s.base cu s.l, cur := cu, l := chL cu s.l, age := s.age + 1, stale := true } h9 := by
   refine ⟨⟨cq9, tl9, tg9, ob9, or9, rq9, p6.d1, p6.d2⟩, k6.lo, hlg, ⟨?_, ?_⟩, ⟨⟨hag.1.1, ?_, ?_⟩, hag.2.1, ?_⟩, k6.a6, k6.fr, fun _ _ => ?_, k6.bl, k6.wy, fun _ h => (by cases h), fun _ h => (by cases h)⟩
   ·show 0 ≤ chB s.base cu s.l; omega
   ·show chB s.base cu s.l ≤ ((i + 1 : Nat) : Int) * 1125899906842624; omega
   ·show s.tage ≤ s.age + 1; omega
   ·show s.age + 1 ≤ ((i + 1 : Nat) : Int); omega
   ·show s.idle ≤ ((i + 1 : Nat) : Int); omega
   ·show true = !decide (s.age + 1 = s.tage)
    rw [decide_eq_false (by omega)]; rfl
  simp (maxSteps := 9000000) (disch := first|exact dis|fail) only [go_sem, simprocAttr, ↓EU_rg, g20, hA, g0, g2, g3, g9, g10, g12, g14, g15, g16, g17, g18, g19, dn0, dn1, d9, Int.reduceEq, decide_true]
  exact ⟨_, _, { s with base := chB s.base cu s.l, cur := cu, l := chL cu s.l, age := s.age + 1, stale := true }, rfl, (by (constructor <;> simp (maxSteps := 9000000) (disch := first|exact dis|fail) only [go_sem, simprocAttr, ↓EU_rg, g20, hA, g0, g2, g3, g9, g10, g12, g14, g15, g16, g17, g18, g19]); all_goals rfl), k9, x9⟩
theorem act_all (a : AC cb tb tag to sl i s h h6 tm x b20) : WPo (EU Tryz.prog O0 [46, 79] none 348 actC ⟨tm, h6, []⟩) (MIDQ h.next cb tb tag to sl i h) := by
 by_cases c0 : x.op = 0
 ·exact act_step a c0
 by_cases c1 : x.op = 1
 ·exact act_abort a c0 c1
 by_cases c2 : x.op = 2
 ·exact act_spoil a c0 c1 c2
 by_cases c3 : x.op = 3
 ·exact act_cut a c0 c1 c2 c3
 by_cases c4 : x.op = 4
 ·exact act_force a c0 c1 c2 c3 c4
 ·exact act_run a c0 c1 c2 c3 c4
end
end Go.Proofs.YtddgcakiceodgaaGreat.EV
namespace Go.Proofs.YtddgcakiceodgaaGreat.EV
open Go Go.RowKit Go.ChangeShapes Go.WideShapes Go.ChangeAt Go.Deep Go.Joins
set_option linter.unusedVariables false
set_option maxRecDepth 100000
noncomputable def ItemWf (x : Item) : Prop := (Lit.int .i64 x.id).wf = true ∧ (Lit.int .i64 x.w).wf = true ∧ (Lit.int .i64 x.lag).wf = true
section
variable {H : Type} {enc : TypeId × Value → H} {w : World} {base : Nat} {spare : Nat → Bool} {held : Bool}
theorem open_item {fuel : Nat} {cs : List Value} {x : DataW H × List MemPlace} (h : DataW.trod enc Tryz.prog w base spare held fuel 43 cs = some x) :
  ∃ z : Item, cs = itemE z ∧ ItemWf z := by
 obtain ⟨y0, y1, y2, n, _, hl, t0, t1, t2⟩ := trod_struct3 Tryz.underlying43 h
 have hc : Tryz.prog.cellsOf 43 = 3 := by kernel_rfl
 have hi : Tryz.prog.cellsOf 3 = 1 := by kernel_rfl
 have hj : Tryz.prog.cellsOf 2 = 1 := by kernel_rfl
 rw [hc] at hl
 match cs, hl with
 | [c0, c1, c2], _ =>
  simp only [hi, hj, List.drop_zero, List.drop_succ_cons, List.take_succ_cons, List.take_zero] at t0 t1 t2
  obtain ⟨n0, e0, _, w0⟩ := DataW.trod_int Tryz.underlying3 t0
  obtain ⟨n1, e1, _, w1⟩ := DataW.trod_int Tryz.underlying3 t1
  obtain ⟨n2, e2, _, w2⟩ := DataW.trod_int Tryz.underlying2 t2
  injection e0 with e0
  injection e1 with e1
  injection e2 with e2
  subst e0; subst e1; subst e2
  exact ⟨⟨n0, n1, n2⟩, rfl, w0, w1, w2⟩
end
theorem itemE_flat (l : List Item) : ∀ x ∈ l, ∀ u ∈ itemE x, flat1 u = true := by
 intro x _ u hu
 exact List.all_eq_true.1 (itemE_flatV x) u hu
noncomputable def Act22Wf (x : Act22) : Prop := True
theorem act22E_flatV (x : Act22) : (act22E x).all flat1 = true := rfl
section
variable {H : Type} {enc : TypeId × Value → H} {w : World} {base : Nat} {spare : Nat → Bool} {held : Bool}
theorem open_act22 {fuel : Nat} {cs : List Value} {x : DataW H × List MemPlace} (h : DataW.trod enc Tryz.prog w base spare held fuel 55 cs = some x) :
  ∃ z : Act22, cs = act22E z ∧ Act22Wf z := by
 obtain ⟨y0, y1, y2, n, _, hl, t0, t1, t2⟩ := trod_struct3 Tryz.underlying55 h
 have hc : Tryz.prog.cellsOf 55 = 3 := by kernel_rfl
 have hi : Tryz.prog.cellsOf 3 = 1 := by kernel_rfl
 have hm : Tryz.prog.cellsOf 5 = 1 := by kernel_rfl
 rw [hc] at hl
 match cs, hl with
 | [c0, c1, c2], _ =>
  simp only [hi, hm, List.drop_zero, List.drop_succ_cons, List.take_succ_cons, List.take_zero] at t0 t1 t2
  obtain ⟨n0, e0, _, w0⟩ := DataW.trod_int Tryz.underlying3 t0
  obtain ⟨n1, e1, _, w1⟩ := DataW.trod_int Tryz.underlying3 t1
  obtain ⟨n2, e2, _, w2⟩ := DataW.trod_int Tryz.underlying5 t2
  injection e0 with e0
  injection e1 with e1
  injection e2 with e2
  subst e0; subst e1; subst e2
  have hb : 0 ≤ n2 ∧ n2 < 256 := by
   simp only [Lit.wf, Bool.and_eq_true, decide_eq_true_eq] at w2
   have h1 : IntKind.u8.min = 0 := rfl
   have h2 : IntKind.u8.max = 255 := rfl
   omega
  obtain ⟨k, rfl⟩ := Int.eq_ofNat_of_zero_le hb.1
  refine ⟨⟨n0, n1, UInt8.ofNat k⟩, ?_, trivial⟩
  show [Value.int .i64 n0, .int .i64 n1, .int .u8 (k : Int)] = [Value.int .i64 n0, .int .i64 n1, .int .u8 ((UInt8.ofNat k).toNat : Int)]
  rw [UInt8.toNat_ofNat', Nat.mod_eq_of_lt (by omega)]
end
theorem act22E_flat (l : List Act22) : ∀ x ∈ l, ∀ u ∈ act22E x, flat1 u = true := by
 intro x _ u hu
 exact List.all_eq_true.1 (act22E_flatV x) u hu
end Go.Proofs.YtddgcakiceodgaaGreat.EV
namespace Go.Proofs.YtddgcakiceodgaaGreat.EV
open Go Go.Proofs
set_option linter.unusedVariables false
set_option linter.unusedSimpArgs false
set_option maxRecDepth 100000
@[go_sem] theorem tq_nil (b : Nat) (x y : Operand) : evBin Tryz.prog .eql 28 x y (ptr b 0) (.pointer none) = some (.bool false) := by kernel_rfl
@[go_sem] theorem tq_nil' (x y : Operand) : evBin Tryz.prog .eql 28 x y (.pointer none) (.pointer none) = some (.bool true) := by kernel_rfl
set_option maxHeartbeats 4000000 in
theorem law_StagePlays (h : Heap) (tag : Int) (wt : (Lit.int .i64 tag).wf = true) (cf : Int) (wf : (Lit.int .i64 cf).wf = true) (sf : Value) (lf : List Item) (hf : SL itemE 3 h sf lf) (wlf : ∀ z ∈ lf, ItemWf z) (to : Int) (wto : (Lit.int .i64 to).wf = true) (sl : Value) (acts : List Act22) (hsl : SL act22E 3 h sl acts) (wacts : ∀ z ∈ acts, Act22Wf z) :
  WPo (EF Tryz.prog O0 6 [.int .i64 tag, formV cf sf, .int .i64 to, sl] h) fun q => q.1 = .bool true := by
 rw [EF_body (O := O0) (by kernel_rfl) Tryz.func6 rfl (rs := [.tmp 8]) rfl (bad := [46, 79]) (by kernel_rfl) _ _ (m := 348) rfl]
 obtain ⟨af, kf, e⟩ := hf.val
 subst e
 obtain ⟨aa, ka, e⟩ := hsl.val
 subst e
 unfold formV
 by_cases hc : lf.length ≤ 40 ∧ acts.length ≤ 30
 rotate_left
 ·simp (disch := first|exact dis|fail) only [go_sem, simprocAttr, ↓EU_rg, awake_ev]
  repeat' (((repeat refine WPo_ob ?_); (first | refine WPo_cond (fun hb => ?_) (fun hb => ?_) | refine WPo_gard (fun hb => ?_) (fun hb => ?_) | refine WPo_gardT (fun hb => ?_) (fun hb => ?_)) <;> (try simp only [Bool.not_eq_true', Bool.not_eq_false'] at hb)) <;> (simp (disch := first|exact dis|fail) only [go_sem, simprocAttr, ↓EU_rg, hb]))
  all_goals (exfalso; simp only [decide_eq_true_eq, decide_eq_false_iff_not] at *; omega)
 have e1 : decide (40 < (lf.length : Int)) = false := decide_eq_false (by omega)
 have e2 : decide (30 < (acts.length : Int)) = false := decide_eq_false (by omega)
 have xB := (Ext.refl h).push (.cells [.int .i64 cf, .slice af lf.length kf] 0)
 simp (disch := first|exact dis|fail) only [go_sem, simprocAttr, ↓EU_rg, awake_ev, e1, e2]
 repeat refine WPo_ob ?_
 refine (fill_ev tag cf lf (.slice af lf.length kf) _ (hf.ext xB) (by omega)).mono ?_
 rintro ⟨w, h1⟩ ⟨x1, k⟩
 simp only at x1 k
 have hn1 := x1.le
 rw [next_push] at hn1
 have hB1 : h1.get h.next = .cells [.int .i64 cf, .slice af lf.length kf] 0 := by rw [x1.old _ (by rw [next_push]; omega)]; exact get_push_new _ _
 have xh1 := xB.trans x1
 have hown := own_ev cf lf (.slice af lf.length kf) h1 (hf.ext xh1) (by omega)
 unfold formV at hown
 cases hg : (tgood tag && goodF cf lf) with
 | false =>
  rw [hg, if_neg (by decide)] at k
  subst k
  unfold nilP
  simp (disch := first|exact dis|fail) only [go_sem, simprocAttr, ↓EU_rg, hB1]
  repeat refine WPo_ob ?_
  refine hown.mono ?_
  rintro ⟨w, h2⟩ ⟨u2, e, o2, f2, x2⟩
  simp only at e o2 x2
  subst e
  simp (disch := first|exact dis|fail) only [go_sem, simprocAttr, ↓EU_rg]
  repeat refine WPo_ob ?_
  refine (rqseed_ev tag 0 cf lf u2 h2 o2.sl (by omega)).mono ?_
  rintro ⟨w, h3⟩ ⟨x3, k⟩
  rw [show bgood 0 = true from rfl, Bool.true_and, hg, if_neg (by decide)] at k
  simp only at k
  subst k
  unfold nilP
  simp (disch := first|exact dis|fail) only [go_sem, simprocAttr, ↓EU_rg, Int.reduceEq]
 | true =>
  rw [hg, if_pos rfl] at k
  obtain ⟨cb, qb, lb, mb, v, e, cq, hcb, hqb, hlb, hmb, hfv⟩ := k
  subst e
  have hgf := (Bool.and_eq_true_iff.1 hg).2
  have htg := (Bool.and_eq_true_iff.1 hg).1
  rw [next_push] at hcb hqb hlb hmb hfv
  simp (disch := first|exact dis|fail) only [go_sem, simprocAttr, ↓EU_rg, hB1]
  repeat refine WPo_ob ?_
  refine hown.mono ?_
  rintro ⟨w, h2⟩ ⟨u2, e, o2, f2, x2⟩
  simp only at e o2 x2
  subst e
  simp (disch := first|exact dis|fail) only [go_sem, simprocAttr, ↓EU_rg]
  repeat refine WPo_ob ?_
  refine (rqseed_ev tag 0 cf lf u2 h2 o2.sl (by omega)).mono ?_
  rintro ⟨w, h3⟩ ⟨x3, k⟩
  rw [show bgood 0 = true from rfl, Bool.true_and, hg, if_pos rfl] at k
  simp only at k x3
  obtain ⟨wb, wv, e, rq, hwb, fwv⟩ := k
  subst e
  simp (disch := first|exact dis|fail) only [go_sem, simprocAttr, ↓EU_rg, Int.reduceEq]
  repeat refine WPo_ob ?_
  refine (stageNew_ev cb to 0 h3).mono ?_
  rintro ⟨w, h4⟩ ⟨x4, k⟩
  simp only at x4 k
  rw [show bgood 0 = true from rfl, Bool.and_true] at k
  have hn2 := x2.le
  have hn3 := x3.le
  cases hto : tgood to with
  | false =>
   rw [hto, if_neg (by decide)] at k
   subst k
   unfold nilP
   unfold tgood at hto
   rw [Bool.and_eq_false_iff, decide_eq_false_iff_not, decide_eq_false_iff_not] at hto
   by_cases c0 : to < 0
   ·have d0 : decide (to < 0) = true := decide_eq_true c0
    simp (disch := first|exact dis|fail) only [go_sem, simprocAttr, ↓EU_rg, d0, Int.reduceEq]
   ·have d0 : decide (to < 0) = false := decide_eq_false c0
    have d1 : decide (2 < to) = true := decide_eq_true (by omega)
    simp (disch := first|exact dis|fail) only [go_sem, simprocAttr, ↓EU_rg, d0, d1, Int.reduceEq]
  | true =>
   rw [hto, if_pos rfl] at k
   obtain ⟨tb, e, htb, htl, gt⟩ := k
   subst e
   have hto' := hto
   unfold tgood at hto'
   rw [Bool.and_eq_true, decide_eq_true_eq, decide_eq_true_eq] at hto'
   have d0 : decide (to < 0) = false := decide_eq_false (by omega)
   have d1 : decide (2 < to) = false := decide_eq_false (by omega)
   have cq4 := ((cq.ext x2).ext x3).ext x4
   have rq4 := rq.ext x4
   have xh4 := ((xh1.trans x2).trans x3).trans x4
   have hcg : cgood tag cf lf = true := by
    unfold cgood
    rw [hgf, Bool.and_true]
    exact htg
   have kpS : KP h.next cb tb tag to 0 ⟨qb, lb, mb, wb, v, noS, noS, wv, 0, cf, lf.map (ptI 0), 0, 0, 0, 0, 0, 0, false, nilP, []⟩ h4 := by
    refine ⟨⟨cq4, htl, ?_, .nil, .nil, rq4, fun j h1 h2 => ?_, fun j h1 => h1.elim⟩, fun j hj => ?_, ?_, ⟨Int.le_refl _, Int.le_refl _⟩, ⟨⟨Int.le_refl _, Int.le_refl _, Int.le_refl _⟩, Int.le_refl _, Int.le_refl _⟩, Nat.zero_le _, (show 0 < 64 by decide), fun e => absurd e (by simp), (show 0 < 500000 by decide), fun _ => rfl, fun e => absurd e (by simp), fun e => absurd e (by simp)⟩
    ·rw [gt]
     have : (fun j => Nat.testBit 0 j) = fun _ => false := funext fun j => Nat.zero_testBit j
     simp only [this]
     rfl
    ·have h5 := fwv j h2
     have h6 := cq.pq.lq.ow.lt h1
     omega
    ·unfold foot at hj
     rcases hj with e | e | e | e | e | e | e | e | e | e
     ·omega
     ·omega
     ·have e : j = qb := e; omega
     ·have e : j = lb := e; omega
     ·have e : j = mb := e; omega
     ·have e : j = wb := e; omega
     ·have := hfv j e; omega
     ·exact e.elim
     ·exact e.elim
     ·have := fwv j e; omega
    ·rw [← goodF_iff, map_itP_ptI]; exact hgf
   simp (disch := first|exact dis|fail) only [go_sem, simprocAttr, ↓EU_rg, d0, d1]
   repeat refine WPo_ob ?_
   refine (LP_rule (fun m st => ∃ (i : Nat) (tm : Fr) (h5 : Heap) (s : PSt), st = ⟨tm, h5, []⟩ ∧ m = acts.length - i ∧ i ≤ acts.length ∧ KT cb tb tag to (.slice aa acts.length ka) s i tm ∧ KP h.next cb tb tag to i s h5 ∧ Ext h h5)
    (fun q => ∃ tm h5, q.2 = ⟨tm, h5, []⟩ ∧ q.1 = .exit 0) ?_ acts.length _ _ ?_ ?_).mono ?_
   ·rintro m _ ⟨i, tm, h5, s, rfl, rfl, hi, kt, kp, x5⟩
    obtain ⟨g0, g2, g3, g9, g10, g12, g14, g15, g16, g17, g18, g19⟩ := kt
    simp (disch := first|exact dis|fail) only [go_sem, simprocAttr, g3, g19]
    (first | rw [EU_region] | rw [EU_draw _ _ rfl]); simp (disch := first|exact dis|fail) only [go_sem, simprocAttr, g3, g19]
    ((repeat refine WPo_ob ?_); (first | refine WPo_cond (fun b1 => ?_) (fun b1 => ?_) | refine WPo_gard (fun b1 => ?_) (fun b1 => ?_) | refine WPo_gardT (fun b1 => ?_) (fun b1 => ?_)) <;> (try simp only [Bool.not_eq_true', Bool.not_eq_false'] at b1))
    ·have b1' := b1
     simp only [decide_eq_true_eq] at b1'
     have hi' : i < acts.length := by omega
     obtain ⟨x, hx⟩ : ∃ x, acts[i]? = some x := ⟨_, List.getElem?_eq_getElem hi'⟩
     obtain ⟨b', o, c', e, hb', hrd, hr⟩ := (hsl.ext x5).at hx rfl
     cases e
     unfold act22E at hrd
     simp (disch := first|exact dis|fail) only [go_sem, simprocAttr, g3, g19, hrd]
     (first | rw [EU_region] | rw [EU_draw _ _ rfl]); simp (disch := first|exact dis|fail) only [go_sem, simprocAttr, g3, g19, hrd]
     have hA : (h5.push (.cells [.int .i64 x.op, .int .i64 x.at', .int .u8 (x.by'.toNat : Int)] 0)).get h5.next = .cells [.int .i64 x.op, .int .i64 x.at', .int .u8 (x.by'.toNat : Int)] 0 := get_push_new _ _
     have kp6 := kp.ext ((Ext.refl h5).push (.cells [.int .i64 x.op, .int .i64 x.at', .int .u8 (x.by'.toNat : Int)] 0))
     have x6 := x5.push (.cells [.int .i64 x.op, .int .i64 x.at', .int .u8 (x.by'.toNat : Int)] 0)
     have hn6 : h5.next < (h5.push (.cells [.int .i64 x.op, .int .i64 x.at', .int .u8 (x.by'.toNat : Int)] 0)).next := by rw [next_push]; omega
     refine WPo_ob (WPo_ob (WPo_ob ?_))
     rw [← EU_seq]
     have hlt6 := kp.ph.tl
     have hbv6 := fun j (e : blkOf s.bv j) => kp.ph.ob.lt e
     generalize h5.push (.cells [.int .i64 x.op, .int .i64 x.at', .int .u8 (x.by'.toNat : Int)] 0) = h6 at *
     have key := fun tm' (a : AC cb tb tag to (.slice (some ⟨b', o, none⟩) acts.length ka) i s h h6 tm' x h5.next) => act_all a
     simp only [actC, EU_at Tryz.func6 rfl, goC] at key
     refine WPo.mono (Q := MIDQ h.next cb tb tag to (.slice (some ⟨b', o, none⟩) acts.length ka) i h) ?_ ?_
     ·exact key _ ⟨(by constructor <;> simp (maxSteps := 9000000) (disch := first|exact dis|fail) only [go_sem, simprocAttr, ↓EU_rg, g0, g2, g3, g9, g10, g12, g14, g15, g16, g17, g18, g19]), kp6, x6, by simp (disch := first|exact dis|fail) only [go_sem, simprocAttr, ↓EU_rg], hA, hn6, hlt6, hbv6, by omega, htg, hto⟩
     ·rintro _ ⟨tm7, h7, s7, rfl, ⟨g0, g2, g3, g9, g10, g12, g14, g15, g16, g17, g18, g19⟩, kp7, x7⟩
      have p7 := kp7.ph
      have hSt := stageOf_ev p7.tg
      have hWy := stageWhy_ev p7.tg
      have de : decide ((s7.at' : Int) = (s7.at' : Int)) = true := decide_eq_true rfl
      have dw : decide (s7.why = s7.why) = true := decide_eq_true rfl
      have dB : decide (s7.B = s7.B) = true := decide_eq_true rfl
      have dcu : decide (s7.cur = s7.cur) = true := decide_eq_true rfl
      have dll : decide (s7.l.map (itP s7.base) = s7.l.map (itP s7.base)) = true := decide_eq_true rfl
      by_cases c5 : s7.at' = 5
      ·have d5 : decide ((s7.at' : Int) = 5) = true := decide_eq_true (by omega)
       have hct : ctag tag to s7.at' = to := if_pos c5
       have dT : decide (to = to) = true := decide_eq_true rfl
       simp (disch := first|exact dis|fail) only [go_sem, simprocAttr, ↓EU_rg, g0, g2, g3, g9, g10, g12, g14, g15, g18, g19, d5]
       rw [EU_bad _ _ rfl, EC_tab (tab := [(false, none), (true, none), (false, none), (false, none), (false, none), (false, none), (true, none), (false, none), (false, none), (false, none), (false, none), (false, none), (true, none), (false, none), (false, none), (false, (some (2, 3))), (false, none), (false, none), (false, none), (false, none), (true, none), (false, none), (false, none), (false, none), (false, none), (false, none), (true, none), (true, none), (false, none), (true, none), (true, none), (false, none), (false, none)]) (by kernel_rfl)]
       simp (disch := first|exact dis|fail) only [go_sem, simprocAttr, ↓EU_rg, g0, g2, g3, g9, g10, g12, g14, g15, g18, g19, hSt, hWy, de, dw]
       repeat refine WPo_ob ?_
       refine (stageBytes_ev p7.tg p7.ob.sl (by have := kp7.bl; omega)).mono ?_
       rintro ⟨u8, h8⟩ ⟨o8, f8, x8⟩
       simp only at o8 x8
       have p8 := p7.ext x8
       have hc1 := conv_str (P := Tryz.prog) (s := 37) (d := 9) (e := 5) Tryz.underlying37 Tryz.underlying9 Tryz.underlying5 o8.sl
       have hc2 := conv_str (P := Tryz.prog) (s := 37) (d := 9) (e := 5) Tryz.underlying37 Tryz.underlying9 Tryz.underlying5 p8.orr.sl
       have hc0 := conv_str (P := Tryz.prog) (s := 37) (d := 9) (e := 5) Tryz.underlying37 Tryz.underlying9 Tryz.underlying5 p7.orr.sl
       have hT8 := coreTag_ev p8.cq
       rw [hct] at hT8
       simp (disch := first|exact dis|fail) only [go_sem, simprocAttr, ↓EU_rg, g0, g2, g3, g9, g10, g12, g14, g15, g18, g19, hc1, hc2, dB, hT8, dT]
       repeat refine WPo_ob ?_
       refine (coreForm_ev p8.cq (by have := kp7.lens; omega) (kp7.lg.near (Int.le_refl _))).mono ?_
       rintro ⟨w, h9⟩ ⟨u9, e, o9, f9, x9⟩
       simp only at e o9 x9
       subst e
       have hO9 := own_ev s7.cur (s7.l.map (itP s7.base)) u9 h9 o9.sl (by rw [List.length_map]; have := kp7.lens; omega)
       unfold formV at hO9 ⊢
       simp (disch := first|exact dis|fail) only [go_sem, simprocAttr, ↓EU_rg, g10]
       repeat refine WPo_ob ?_
       refine hO9.mono ?_
       rintro ⟨w, h10⟩ ⟨u10, e, o10, f10, x10⟩
       simp only at e o10 x10
       subst e
       have p10 := (p8.ext x9).ext x10
       simp (disch := first|exact dis|fail) only [go_sem, simprocAttr, ↓EU_rg, g10]
       repeat refine WPo_ob ?_
       refine (rqform_ev p10.rq (by have := kp7.lens; omega) (kp7.lg.near (Int.le_refl _))).mono ?_
       rintro ⟨w, h11⟩ ⟨u11, e, o11, f11, x11⟩
       simp only at e o11 x11
       subst e
       have hS11 := rsame_ev s7.cur s7.cur (s7.l.map (itP s7.base)) (s7.l.map (itP s7.base)) u10 u11 h11 (o10.ext x11).sl o11.sl (by rw [List.length_map]; have := kp7.lens; omega)
       unfold formV at hS11 ⊢
       simp (disch := first|exact dis|fail) only [go_sem, simprocAttr, ↓EU_rg, g10]
       repeat refine WPo_ob ?_
       refine hS11.bind fun h12 x12 => ?_
       have x712 := (((x8.trans x9).trans x10).trans x11).trans x12
       have kp12 := kp7.ext x712
       simp (disch := first|exact dis|fail) only [go_sem, simprocAttr, ↓EU_rg, g0, g2, g3, g9, g10, g12, g14, g15, g16, g17, g18, g19, dcu, dll, hc0, hc2]
       exact ⟨_, by omega, i + 1, _, _, s7, rfl, rfl, by omega, (by constructor <;> simp (disch := first|exact dis|fail) only [go_sem, simprocAttr, ↓EU_rg, g0, g2, g3, g9, g10, g12, g14, g15, g16, g17, g18, g19]), kp12, x7.trans x712⟩
      ·have d5 : decide ((s7.at' : Int) = 5) = false := decide_eq_false (by omega)
       have hct : ctag tag to s7.at' = tag := if_neg c5
       have dT : decide (tag = tag) = true := decide_eq_true rfl
       simp (disch := first|exact dis|fail) only [go_sem, simprocAttr, ↓EU_rg, g0, g2, g3, g9, g10, g12, g14, g15, g18, g19, d5]
       rw [EU_bad _ _ rfl, EC_tab (tab := [(false, none), (true, none), (false, none), (false, none), (false, none), (false, none), (true, none), (false, none), (false, none), (false, none), (false, none), (false, none), (true, none), (false, none), (false, none), (false, (some (2, 3))), (false, none), (false, none), (false, none), (false, none), (true, none), (false, none), (false, none), (false, none), (false, none), (false, none), (true, none), (true, none), (false, none), (true, none), (true, none), (false, none), (false, none)]) (by kernel_rfl)]
       simp (disch := first|exact dis|fail) only [go_sem, simprocAttr, ↓EU_rg, g0, g2, g3, g9, g10, g12, g14, g15, g18, g19, hSt, hWy, de, dw]
       repeat refine WPo_ob ?_
       refine (stageBytes_ev p7.tg p7.ob.sl (by have := kp7.bl; omega)).mono ?_
       rintro ⟨u8, h8⟩ ⟨o8, f8, x8⟩
       simp only at o8 x8
       have p8 := p7.ext x8
       have hc1 := conv_str (P := Tryz.prog) (s := 37) (d := 9) (e := 5) Tryz.underlying37 Tryz.underlying9 Tryz.underlying5 o8.sl
       have hc2 := conv_str (P := Tryz.prog) (s := 37) (d := 9) (e := 5) Tryz.underlying37 Tryz.underlying9 Tryz.underlying5 p8.orr.sl
       have hc0 := conv_str (P := Tryz.prog) (s := 37) (d := 9) (e := 5) Tryz.underlying37 Tryz.underlying9 Tryz.underlying5 p7.orr.sl
       have hT8 := coreTag_ev p8.cq
       rw [hct] at hT8
       simp (disch := first|exact dis|fail) only [go_sem, simprocAttr, ↓EU_rg, g0, g2, g3, g9, g10, g12, g14, g15, g18, g19, hc1, hc2, dB, hT8, dT]
       repeat refine WPo_ob ?_
       refine (coreForm_ev p8.cq (by have := kp7.lens; omega) (kp7.lg.near (Int.le_refl _))).mono ?_
       rintro ⟨w, h9⟩ ⟨u9, e, o9, f9, x9⟩
       simp only at e o9 x9
       subst e
       have hO9 := own_ev s7.cur (s7.l.map (itP s7.base)) u9 h9 o9.sl (by rw [List.length_map]; have := kp7.lens; omega)
       unfold formV at hO9 ⊢
       simp (disch := first|exact dis|fail) only [go_sem, simprocAttr, ↓EU_rg, g10]
       repeat refine WPo_ob ?_
       refine hO9.mono ?_
       rintro ⟨w, h10⟩ ⟨u10, e, o10, f10, x10⟩
       simp only at e o10 x10
       subst e
       have p10 := (p8.ext x9).ext x10
       simp (disch := first|exact dis|fail) only [go_sem, simprocAttr, ↓EU_rg, g10]
       repeat refine WPo_ob ?_
       refine (rqform_ev p10.rq (by have := kp7.lens; omega) (kp7.lg.near (Int.le_refl _))).mono ?_
       rintro ⟨w, h11⟩ ⟨u11, e, o11, f11, x11⟩
       simp only at e o11 x11
       subst e
       have hS11 := rsame_ev s7.cur s7.cur (s7.l.map (itP s7.base)) (s7.l.map (itP s7.base)) u10 u11 h11 (o10.ext x11).sl o11.sl (by rw [List.length_map]; have := kp7.lens; omega)
       unfold formV at hS11 ⊢
       simp (disch := first|exact dis|fail) only [go_sem, simprocAttr, ↓EU_rg, g10]
       repeat refine WPo_ob ?_
       refine hS11.bind fun h12 x12 => ?_
       have x712 := (((x8.trans x9).trans x10).trans x11).trans x12
       have kp12 := kp7.ext x712
       simp (disch := first|exact dis|fail) only [go_sem, simprocAttr, ↓EU_rg, g0, g2, g3, g9, g10, g12, g14, g15, g16, g17, g18, g19, dcu, dll, hc0, hc2]
       exact ⟨_, by omega, i + 1, _, _, s7, rfl, rfl, by omega, (by constructor <;> simp (disch := first|exact dis|fail) only [go_sem, simprocAttr, ↓EU_rg, g0, g2, g3, g9, g10, g12, g14, g15, g16, g17, g18, g19]), kp12, x7.trans x712⟩
    ·simp only [decide_eq_false_iff_not] at b1
     simp (disch := first|exact dis|fail) only [go_sem, simprocAttr, ↓EU_rg]
     exact ⟨_, _, rfl, trivial⟩
   ·refine ⟨0, _, _, _, rfl, rfl, by omega, ⟨by simp (disch := first|exact dis|fail) only [go_sem, simprocAttr, ↓EU_rg], by simp (disch := first|exact dis|fail) only [go_sem, simprocAttr, ↓EU_rg], by simp (disch := first|exact dis|fail) only [go_sem, simprocAttr, ↓EU_rg], by simp (disch := first|exact dis|fail) only [go_sem, simprocAttr, ↓EU_rg], by simp (disch := first|exact dis|fail) only [go_sem, simprocAttr, ↓EU_rg], by simp (disch := first|exact dis|fail) only [go_sem, simprocAttr, ↓EU_rg], by simp (disch := first|exact dis|fail) only [go_sem, simprocAttr, ↓EU_rg]; all_goals rfl, by simp (disch := first|exact dis|fail) only [go_sem, simprocAttr, ↓EU_rg], by simp (disch := first|exact dis|fail) only [go_sem, simprocAttr, ↓EU_rg]; all_goals rfl, by simp (disch := first|exact dis|fail) only [go_sem, simprocAttr, ↓EU_rg], by simp (disch := first|exact dis|fail) only [go_sem, simprocAttr, ↓EU_rg]; all_goals rfl, by simp (disch := first|exact dis|fail) only [go_sem, simprocAttr, ↓EU_rg]; all_goals rfl⟩, kpS, xh4⟩
   ·omega
   ·rintro ⟨q, _⟩ ⟨tm, h5, rfl, rfl⟩
    simp (disch := first|exact dis|fail) only [go_sem, simprocAttr, ↓EU_rg]
end Go.Proofs.YtddgcakiceodgaaGreat.EV
namespace Go.Proofs.YtddgcakiceodgaaGreat.stagePlays
open Go.ChangeShapes Go.WideShapes Go.ChangeAt Go.RowKit Go.Joins
open Go.ChangeMaps (open_string shut_string)
set_option linter.unusedVariables false
set_option linter.unusedSimpArgs false
theorem own : ownKnob Tryz.prog.godebug = none := by kernel_rfl
theorem laidOut : laidOutB Tryz.prog = true := by kernel_rfl
set_option maxRecDepth 100000 in
theorem names : (Tryz.prog.funcs.toList.all fun fn => !(fn.name == "runtime.NumGoroutine")) = true := by decide +kernel
set_option maxRecDepth 100000 in
theorem lifted (os : Os) (started : os.Started) (H : Type) (enc : TypeId × Value → H) :
  ReturnsInHanded {} Tryz.checked os 6 .any (Rows.stagePlaysSpec.pre6 enc Tryz.prog Tryz.f6 Rows.stagePlaysRow.domain false) (Rows.stagePlaysSpec.post enc Tryz.prog Tryz.f6 false true false false) := by
 refine returnsInHanded_of_change_sized (C := Tryz.checked) own started (by kernel_rfl) Tryz.func6
  (ChangeSpec.witness6 (enc := enc) (C := Tryz.checked) false ⟨#[], #[.int .i64 0, .agg #[.int .i64 0, .slice none 0 0], .int .i64 0, .slice none 0 0], []⟩ 8 (by kernel_rfl) (by kernel_rfl) (by kernel_rfl) (by kernel_rfl)) ?_
 intro W base args ds gs before hval0 hW hcnd hsz0 _
 have hval : ∀ (j : Nat) t v, Tryz.f6.params[j]? = some t → args[j]? = some v → Value.okWide Tryz.prog W .any base t v := hval0
 have hW' := hW
 obtain ⟨p, q, hA0, hV, rfl, hfz, hnd⟩ := hW
 have hA : DataW.TrodAll enc Tryz.prog W 0 (fun _ => true) true Tryz.f6.params.toList args.toList ds p := hA0
 rw [Tryz.params6] at hA hval
 obtain ⟨v0, vs0, d0, ds0, p0, q0, hargs, rfl, rfl, h0, r0⟩ := trodAll_cons hA
 obtain ⟨v1, vs1, d1, ds1, p1, q1, rfl, rfl, rfl, h1, r1⟩ := trodAll_cons r0
 obtain ⟨v2, vs2, d2, ds2, p2, q2, rfl, rfl, rfl, h2, r2⟩ := trodAll_cons r1
 obtain ⟨v3, vs3, d3, ds3, p3, q3, rfl, rfl, rfl, h3, r3⟩ := trodAll_cons r2
 obtain ⟨rfl, rfl, rfl⟩ := trodAll_nil r3
 obtain rfl : args = #[v0, v1, v2, v3] := by cases args; simp_all
 obtain ⟨rfl, rfl⟩ := trodVars_none hV
 have G0 := EV.HR.start W
 obtain ⟨c0, rfl, rfl, rfl, w0⟩ := open_int Tryz.underlying3 (hval 0 3 v0 rfl rfl) h0
 have k1 := h1
 have lt1 : ∀ x ∈ p1, x.block < W.heap.size := by obtain ⟨m, hm⟩ := k1; exact DataW.trod_lt m _ _ _ hm
 obtain ⟨va1, vb1, ya1, yb1, n1, rfl, hd1, hp1, ta1, tb1⟩ := open_agg2 Tryz.underlying24 (by kernel_rfl) (by kernel_rfl) (hval 1 24 _ rfl rfl) h1
 obtain ⟨c1, ec1, _, wc1⟩ := DataW.trod_int Tryz.underlying3 ta1
 injection ec1 with ec1
 subst ec1
 obtain ⟨A1, n1, m1, xs1, rfl, R1, lm1, w1⟩ := EV.open_row (e := EV.itemE) (es := 3) (Wf := EV.ItemWf) Tryz.underlying22 (by kernel_rfl) (fun _ => rfl) EV.open_item (fun ad len cap e => by subst e; exact EV.cellOk_slice Tryz.underlying22 (EV.valOk_cell Tryz.underlying24 (ts := [3, 22]) (by kernel_rfl) (hval 1 24 _ rfl rfl) (i := 1) rfl rfl)) tb1
 obtain ⟨N1, H1, u1, G1, X1, V1, S1, L1⟩ := EV.add_row (e := EV.itemE) G0 (fun _ => rfl) (by decide) (EV.itemE_flat xs1) R1
 obtain ⟨c2, rfl, rfl, rfl, w2⟩ := open_int Tryz.underlying3 (hval 2 3 v2 rfl rfl) h2
 have k3 := h3
 have lt3 : ∀ x ∈ p3, x.block < W.heap.size := by obtain ⟨m, hm⟩ := k3; exact DataW.trod_lt m _ _ _ hm
 obtain ⟨fu3, hf3⟩ := h3
 obtain ⟨a03, len03, cap03, ev3⟩ := okWide_slice Tryz.underlying46 (hval 3 46 v3 rfl rfl)
 have hf'3 := hf3
 rw [ev3] at hf'3
 simp only [Value.cells] at hf'3
 obtain ⟨A3, n3, m3, xs3, e3, R3, lm3, w3⟩ := EV.open_row (e := EV.act22E) (es := 3) (Wf := EV.Act22Wf) Tryz.underlying46 (by kernel_rfl) (fun _ => rfl) EV.open_act22 (fun ad len cap e => by have := (hval 3 46 v3 rfl rfl); rw [ev3, e] at this; exact EV.valOk_slice Tryz.underlying46 this) hf'3
 rw [e3] at ev3
 subst ev3
 obtain ⟨N2, H2, u3, G2, X2, V3, S3, L3⟩ := EV.add_row (e := EV.act22E) G1 (fun _ => rfl) (by decide) (EV.act22E_flat xs3) R3
 refine (EV.EF_calls (args := [.int .i64 c0, EV.formV c1 u1, .int .i64 c2, u3]) (fun fn hf e => by have := List.all_eq_true.1 names fn hf; rw [e] at this; simp at this) (by kernel_rfl) EV.O0_sound G2 (EV.LR.cons (((EV.VR.int _ _).mono _).mono _) (EV.LR.cons ((EV.VR_agg (EV.LR.cons (.int _ _) (EV.LR.cons V1 (EV.LR.nil _)))).mono _) (EV.LR.cons ((EV.VR.int _ _).mono _) (EV.LR.cons (V3) (EV.LR.nil _))))) (EV.law_StagePlays H2 c0 w0 c1 wc1 u1 (xs1.take n1) ((S1).ext X2) (fun z hz => w1 z (List.mem_of_mem_take hz)) c2 w2 u3 (xs3.take n3) S3 (fun z hz => w3 z (List.mem_of_mem_take hz)))).mono fun e W' ⟨he, bel⟩ => ?_
 subst he
 exact ⟨_, rfl, _, _, _, [], _, [], hW', trodAll_mk1 (shut_bool Tryz.underlying4 _), (trodAll_cons_mk (shut_int Tryz.underlying3 w0) (trodAll_cons_mk (Below.trod laidOut (by kernel_rfl) (of_decide_eq_true (by kernel_rfl)) k1 bel lt1) (trodAll_cons_mk (shut_int Tryz.underlying3 w2) (trodAll_cons_mk (Below.trod laidOut (by kernel_rfl) (of_decide_eq_true (by kernel_rfl)) k3 bel lt3) trodAll_mk0)))), rfl, bel.frame _, fun h => by cases h⟩
theorem over : Rows.stagePlaysRow.holds Tryz.pinned (OpenSpec.ofChange Rows.stagePlaysSpec) :=
 OpenClaim.holds_of_wide 6 Tryz.f6 rfl rfl rfl rfl rfl rfl rfl ⟨rfl, rfl, rfl, rfl, rfl⟩ rfl rfl rfl rfl rfl (by kernel_rfl) Tryz.func6 (by kernel_rfl)
  (of_decide_eq_true (by kernel_rfl)) (by unfold Func.isWrapper; first | (rw [if_pos (by decide +kernel)]; kernel_rfl) | (rw [if_neg (by decide +kernel)]; exact ⟨rfl, rfl⟩))
  (fun os started H enc _ => lifted os started H enc)
theorem proved : Rows.StagePlaysSaid := over
#print axioms proved
end Go.Proofs.YtddgcakiceodgaaGreat.stagePlays
namespace Go.Proofs.YtddgcakiceodgaaGreat
theorem stagePlays_holds : Rows.StagePlaysSaid := stagePlays.proved
end Go.Proofs.YtddgcakiceodgaaGreat
