/- The reference's queue: Pick. No condition. What is one's own, cut at its end, filled again in place, cleared. No condition. The reference's queue: Charge. No condition. Contracts: (*stage.Try).Spoil, Cut, Force. No condition. StagePlays: what lies there between two acts. No condition. The statements' fill. No condition. StagePlays: the state between two acts, told. No condition. -/
import Derived.Test.YtddgcakiceodgaaGreatM19
import Derived.Test.YtddgcakiceodgaaGreatM10
namespace Go.Proofs.YtddgcakiceodgaaGreat.EV
open Go Go.Proofs
set_option linter.unusedVariables false
set_option linter.unusedSimpArgs false
set_option maxRecDepth 100000
theorem curR_nil {tag : Int} (ht : tgood tag = true) (cur : Int) : curR tag cur [] = -1 := by
 rcases tgood_c ht with rfl | rfl | rfl
 ·rfl
 ·unfold curR
  rw [pickI_1 _ _ fun e => by cases e.1]; rfl
 ·unfold curR
  rw [pickI_2]; rfl
theorem curR_some {tag cur : Int} {l : List Pnt} {p : Pnt} (h : pickI tag cur l = some p.id) : curR tag cur l = p.id := by
 unfold curR; rw [h]; rfl
set_option maxHeartbeats 2000000 in
theorem rqpick_ev {tag base cur : Int} {L : List Pnt} {v : Value} {b : Nat} {h : Heap} (q : RQ h b v tag base cur L) (ht : tgood tag = true) (hl : L.length ≤ 64) (hw : ∀ p ∈ L, 1 ≤ p.w ∧ p.w ≤ 20) (hv : ∀ p ∈ L, -2251799813685248 ≤ p.v - base ∧ p.v - base ≤ 2251799813685248) (hbb : -2305843009213693952 ≤ base ∧ base ≤ 2305843009213693952) :
  WPo (EF Tryz.prog O0 28 [ptr b 0] h) fun r => r.1 = .tuple ⟨[.int .i64 (if someP L = true then curR tag cur L else 0), .bool (someP L)]⟩ ∧ RQ r.2 b v tag base (curR tag cur L) L ∧ Mod (fun j => j = b) h r.2 := by
 have g := q.gb
 have hnb := q.nb
 have hbl := q.lt
 rw [EF_body (O := O0) (by kernel_rfl) Tryz.func28 rfl (rs := [.tmp 2, .tmp 3]) rfl (bad := []) (by kernel_rfl) _ _ (m := 187) rfl]
 obtain ⟨a, c, hvv⟩ := q.ow.val
 subst hvv
 by_cases hL0 : L = []
 ·subst hL0
  have d0 : decide (((0 : Nat) : Int) = 0) = true := rfl
  simp (disch := first|exact dis|fail) only [go_sem, simprocAttr, ↓EU_rg, g, d0]
  rw [curR_nil ht]
  exact ⟨rfl, ⟨by rw [next_set]; exact hbl, get_set_same _ _ _, q.ow.mod (Mod.set (S := fun j => j = b) (Mod.refl _ _) _ _ fun _ => rfl) fun j hj e => hnb (e ▸ hj)⟩, (Mod.refl _ _).set _ _ fun _ => rfl⟩
 obtain ⟨x0, r, hL⟩ : ∃ x0 r, L = x0 :: r := by cases L with | nil => exact absurd rfl hL0 | cons x0 r => exact ⟨x0, r, rfl⟩
 have hsome : someP L = true := by rw [hL]; unfold someP; rw [decide_eq_false (by simp)]; rfl
 have hlen : 0 < L.length := by rw [hL]; simp
 have hx0 : L[0]? = some x0 := by rw [hL]; rfl
 have hleast : leastP L = minP x0 (L.drop 1) := by rw [hL]; rfl
 have d0 : decide ((L.length : Int) = 0) = false := decide_eq_false (by omega)
 simp (disch := first|exact dis|fail) only [go_sem, simprocAttr, ↓EU_rg, g, d0]
 repeat refine WPo_ob ?_
 refine (LP_rule (fun m st => ∃ (i : Nat) (tm : Fr) (f : Nat), st = ⟨tm, h, []⟩ ∧ m = L.length - i ∧ i ≤ L.length ∧ Fr.get tm 0 = ptr b 0 ∧ Fr.get tm 4 = .int .i64 f ∧ Fr.get tm 5 = .int .i64 (-1) ∧ Fr.get tm 6 = .int .i64 (spread base (L.take i)) ∧ Fr.get tm 7 = .int .i64 (totW (L.take i)) ∧ Fr.get tm 8 = .int .i64 i ∧ L[f]? = some (minP x0 ((L.take i).drop 1)) ∧ (-(i * 45035996273704960) ≤ spread base (L.take i) ∧ spread base (L.take i) ≤ i * 45035996273704960) ∧ 0 ≤ totW (L.take i) ∧ totW (L.take i) ≤ 20 * i)
  (fun r => ∃ tm f, r.2 = ⟨tm, h, []⟩ ∧ r.1 = .exit 0 ∧ Fr.get tm 0 = ptr b 0 ∧ Fr.get tm 4 = .int .i64 (f : Nat) ∧ Fr.get tm 5 = .int .i64 (-1) ∧ Fr.get tm 6 = .int .i64 (spread base L) ∧ Fr.get tm 7 = .int .i64 (totW L) ∧ L[f]? = some (leastP L) ∧ (-2882303761517117440 ≤ spread base L ∧ spread base L ≤ 2882303761517117440) ∧ 0 ≤ totW L ∧ totW L ≤ 1280) ?_ L.length _ _ ?_ ?_).mono ?_
 ·rintro m _ ⟨i, tm, f, rfl, rfl, hi, g0, g4, g5, g6, g7, g8, hf, hsb, ht0, ht1⟩
  simp (disch := first|exact dis|fail) only [go_sem, simprocAttr, ↓EU_rg, g0, g8, g]
  ((repeat refine WPo_ob ?_); (first | refine WPo_cond (fun b1 => ?_) (fun b1 => ?_) | refine WPo_gard (fun b1 => ?_) (fun b1 => ?_) | refine WPo_gardT (fun b1 => ?_) (fun b1 => ?_)) <;> (try simp only [Bool.not_eq_true', Bool.not_eq_false'] at b1))
  ·have b1' := b1
   simp only [decide_eq_true_eq] at b1'
   have hi' : i < L.length := by omega
   obtain ⟨x, hx⟩ : ∃ x, L[i]? = some x := ⟨_, List.getElem?_eq_getElem hi'⟩
   have hfl := (List.getElem?_eq_some_iff.1 hf).1
   obtain ⟨b', o, c', e, hb', hrd, hr⟩ := q.ow.sl.at hx rfl
   cases e
   have hr1 := hr 1 _ rfl
   have hr2 := hr 2 _ rfl
   obtain ⟨b', o, c', e, _, hrd', hr'⟩ := q.ow.sl.at hf rfl
   cases e
   have hf2 := hr' 2 _ rfl
   have df : decide ((f : Int) < (L.length : Int)) = true := decide_eq_true (by omega)
   have hxm := List.mem_of_getElem? hx
   have hwx := hw x hxm
   have hvx := hv x hxm
   have hS' : spread base (L.take (i + 1)) = spread base (L.take i) + (x.v - base) * x.w := by unfold spread; rw [foldl_snoc _ _ hx]
   have hT' : totW (L.take (i + 1)) = totW (L.take i) + x.w := by unfold totW; rw [foldl_snoc _ _ hx]
   have hp : -45035996273704960 ≤ (x.v - base) * x.w ∧ (x.v - base) * x.w ≤ 45035996273704960 := by
    have h1 : 1 ≤ x.w := hwx.1
    have h2 : x.w ≤ 20 := hwx.2
    constructor
    ·have : (2251799813685248 + (x.v - base)) * x.w ≥ 0 := Int.mul_nonneg (by omega) (by omega)
     rw [Int.add_mul] at this
     omega
    ·have : (2251799813685248 - (x.v - base)) * x.w ≥ 0 := Int.mul_nonneg (by omega) (by omega)
     rw [Int.sub_mul] at this
     omega
   have w1 : wrapF .i64 (x.v - base) = x.v - base := wrap64 (by omega)
   have w2 : wrapF .i64 ((x.v - base) * x.w) = (x.v - base) * x.w := wrap64 (by omega)
   have w3 : wrapF .i64 (spread base (L.take i) + (x.v - base) * x.w) = spread base (L.take (i + 1)) := by rw [hS']; exact wrap64 (by omega)
   have w4 : wrapF .i64 (totW (L.take i) + x.w) = totW (L.take (i + 1)) := by rw [hT']; exact wrap64 (by omega)
   have hmi : minP x0 ((L.take (i + 1)).drop 1) = if x.v < (minP x0 ((L.take i).drop 1)).v then x else minP x0 ((L.take i).drop 1) := by
    cases i with
    | zero =>
     rw [hx0] at hx
     cases hx
     rw [hL]
     show x0 = if x0.v < x0.v then x0 else x0
     split <;> rfl
    | succ i => rw [List.take_add_one, hx, List.drop_append, List.length_take, show 1 - min (i + 1) L.length = 0 by omega]; exact minP_snoc _ _ _
   generalize hmn : minP x0 ((L.take i).drop 1) = mn at *
   by_cases q1 : x.v < mn.v
   ·have d1 : decide (x.v < mn.v) = true := decide_eq_true q1
    rw [if_pos q1] at hmi
    simp (disch := first|exact dis|fail) only [go_sem, simprocAttr, ↓EU_rg, g0, g4, g6, g7, g8, g, df, hr1, hr2, hf2, d1, w1, w2, w3, w4]
    exact ⟨_, by omega, i + 1, _, i, rfl, rfl, by omega, by simp (disch := first|exact dis|fail) only [go_sem, simprocAttr, ↓EU_rg, g0], by simp (disch := first|exact dis|fail) only [go_sem, simprocAttr, ↓EU_rg], by simp (disch := first|exact dis|fail) only [go_sem, simprocAttr, ↓EU_rg, g5], by simp (disch := first|exact dis|fail) only [go_sem, simprocAttr, ↓EU_rg], by simp (disch := first|exact dis|fail) only [go_sem, simprocAttr, ↓EU_rg], by simp (disch := first|exact dis|fail) only [go_sem, simprocAttr, ↓EU_rg], by rw [hmi]; exact hx, ⟨by omega, by omega⟩, by omega, by omega⟩
   ·have d1 : decide (x.v < mn.v) = false := decide_eq_false q1
    rw [if_neg q1] at hmi
    simp (disch := first|exact dis|fail) only [go_sem, simprocAttr, ↓EU_rg, g0, g4, g6, g7, g8, g, df, hr1, hr2, hf2, d1, w1, w2, w3, w4]
    exact ⟨_, by omega, i + 1, _, f, rfl, rfl, by omega, by simp (disch := first|exact dis|fail) only [go_sem, simprocAttr, ↓EU_rg, g0], by simp (disch := first|exact dis|fail) only [go_sem, simprocAttr, ↓EU_rg, g4], by simp (disch := first|exact dis|fail) only [go_sem, simprocAttr, ↓EU_rg, g5], by simp (disch := first|exact dis|fail) only [go_sem, simprocAttr, ↓EU_rg], by simp (disch := first|exact dis|fail) only [go_sem, simprocAttr, ↓EU_rg], by simp (disch := first|exact dis|fail) only [go_sem, simprocAttr, ↓EU_rg], by rw [hmi]; exact hf, ⟨by omega, by omega⟩, by omega, by omega⟩
  ·simp only [decide_eq_false_iff_not] at b1
   have : i = L.length := by omega
   subst this
   rw [List.take_length] at *
   rw [← hleast] at hf
   simp (disch := first|exact dis|fail) only [go_sem, simprocAttr, ↓EU_rg]
   exact ⟨_, f, rfl, trivial, by simp (disch := first|exact dis|fail) only [go_sem, simprocAttr, ↓EU_rg, g0], by simp (disch := first|exact dis|fail) only [go_sem, simprocAttr, ↓EU_rg, g4], by simp (disch := first|exact dis|fail) only [go_sem, simprocAttr, ↓EU_rg, g5], by simp (disch := first|exact dis|fail) only [go_sem, simprocAttr, ↓EU_rg, g6], by simp (disch := first|exact dis|fail) only [go_sem, simprocAttr, ↓EU_rg, g7], hf, ⟨by omega, by omega⟩, by omega, by omega⟩
 ·exact ⟨0, _, 0, rfl, rfl, by omega, by simp (disch := first|exact dis|fail) only [go_sem, simprocAttr, ↓EU_rg], by simp (disch := first|exact dis|fail) only [go_sem, simprocAttr, ↓EU_rg]; all_goals rfl, by simp (disch := first|exact dis|fail) only [go_sem, simprocAttr, ↓EU_rg], by simp (disch := first|exact dis|fail) only [go_sem, simprocAttr, ↓EU_rg]; all_goals rfl, by simp (disch := first|exact dis|fail) only [go_sem, simprocAttr, ↓EU_rg]; all_goals rfl, by simp (disch := first|exact dis|fail) only [go_sem, simprocAttr, ↓EU_rg]; all_goals rfl, hx0, ⟨Int.le_refl _, Int.le_refl _⟩, Int.le_refl _, Int.le_refl _⟩
 ·omega
 ·rintro ⟨r, _⟩ ⟨tm, f, rfl, rfl, g0, g4, g5, g6, g7, hf, hsb, ht0, ht1⟩
  have hfl := (List.getElem?_eq_some_iff.1 hf).1
  have df : decide ((f : Int) < (L.length : Int)) = true := decide_eq_true (by omega)
  rcases tgood_c ht with rfl | rfl | rfl
  ·have d1 : decide ((0 : Int) = 1) = false := rfl
   have d2 : decide ((0 : Int) = 2) = false := rfl
   have hcur : curR 0 cur L = (leastP L).id := curR_some (by rw [pickI_0, hsome]; rfl)
   have hxm : L[f]? = some (leastP L) := hf
   obtain ⟨b', o, c', e, hb', hrd, hr⟩ := q.ow.sl.at hxm rfl
   cases e
   have hz0 := hr 0 _ rfl
   rw [add_z] at hz0
   have hbl := q.lt
   simp (disch := first|exact dis|fail) only [go_sem, simprocAttr, ↓EU_rg, g0, g4, g, hz0, d1, d2, df]
   refine ⟨?_, ?_, (Mod.refl _ _).set _ _ fun _ => rfl⟩
   ·rw [hsome, if_pos rfl, hcur]
   ·rw [hcur]
    exact ⟨by rw [next_set]; exact hbl, get_set_same _ _ _, q.ow.mod (Mod.set (S := fun j => j = b) (Mod.refl _ _) _ _ fun _ => rfl) fun j hj e => hnb (e ▸ hj)⟩
  ·have d1 : decide ((1 : Int) = 1) = true := rfl
   have hat := rqat_ev q (by omega) cur
   rw [idx_now] at hat
   cases hn : nowI cur L with
   | none =>
    rw [hn] at hat
    have hcur : curR 1 cur L = (leastP L).id := curR_some (by rw [pickI_1 _ _ fun e => by rw [hn] at e; cases e.1]; rw [hsome]; rfl)
    have d3 : decide (0 ≤ (-1 : Int)) = false := rfl
    have hxm : L[f]? = some (leastP L) := hf
    obtain ⟨b', o, c', e, hb', hrd, hr⟩ := q.ow.sl.at hxm rfl
    cases e
    have hz0 := hr 0 _ rfl
    rw [add_z] at hz0
    have hbl := q.lt
    simp (disch := first|exact dis|fail) only [go_sem, simprocAttr, ↓EU_rg, g0, g4, g, hz0, d1, df, hat, d3]
    refine ⟨?_, ?_, (Mod.refl _ _).set _ _ fun _ => rfl⟩
    ·rw [hsome, if_pos rfl, hcur]
    ·rw [hcur]
     exact ⟨by rw [next_set]; exact hbl, get_set_same _ _ _, q.ow.mod (Mod.set (S := fun j => j = b) (Mod.refl _ _) _ _ fun _ => rfl) fun j hj e => hnb (e ▸ hj)⟩
   | some k =>
    rw [hn] at hat
    simp only at hat
    obtain ⟨k', hk', hkx, hkid⟩ := now_some (by rw [hn]; rfl)
    rw [hn] at hk'
    cases hk'
    have hkl := nowI_lt hn
    have dk : decide (0 ≤ (k : Int)) = true := decide_eq_true (by omega)
    have dk2 : decide ((k : Int) < (L.length : Int)) = true := decide_eq_true (by omega)
    obtain ⟨b', o, c', e, _, hrd, hr⟩ := q.ow.sl.at hf rfl
    cases e
    have hf2 := hr 2 _ rfl
    obtain ⟨b', o, c', e, _, hrd', hr'⟩ := q.ow.sl.at hkx rfl
    cases e
    have hk2 := hr' 2 _ rfl
    have hvk := hv _ (List.mem_of_getElem? hkx)
    have wk : wrapF .i64 ((nowP cur L).v - 465585120) = (nowP cur L).v - 465585120 := wrap64 (by omega)
    by_cases c1 : (nowP cur L).v - 465585120 ≤ (leastP L).v
    ·have d4 : decide ((nowP cur L).v - 465585120 ≤ (leastP L).v) = true := decide_eq_true c1
     have hcur : curR 1 cur L = cur := by
      unfold curR pickI
      rw [if_pos ⟨rfl, by rw [hn]; rfl, c1⟩, hkid]; rfl
     simp (disch := first|exact dis|fail) only [go_sem, simprocAttr, ↓EU_rg, g0, g4, g, df, d1, hat, dk, dk2, hf2, hk2, wk, d4]
     rw [hsome, if_pos rfl, hcur]
     exact ⟨rfl, q, Mod.refl _ _⟩
    ·have d4 : decide ((nowP cur L).v - 465585120 ≤ (leastP L).v) = false := decide_eq_false c1
     have hcur : curR 1 cur L = (leastP L).id := curR_some (by rw [pickI_1 _ _ fun e => c1 e.2]; rw [hsome]; rfl)
     have hxm : L[f]? = some (leastP L) := hf
     obtain ⟨b', o, c', e, hb', hrd, hr⟩ := q.ow.sl.at hxm rfl
     cases e
     have hz0 := hr 0 _ rfl
     rw [add_z] at hz0
     have hbl := q.lt
     simp (disch := first|exact dis|fail) only [go_sem, simprocAttr, ↓EU_rg, g0, g4, g, hz0, df, d1, hat, dk, dk2, hf2, hk2, wk, d4]
     refine ⟨?_, ?_, (Mod.refl _ _).set _ _ fun _ => rfl⟩
     ·rw [hsome, if_pos rfl, hcur]
     ·rw [hcur]
      exact ⟨by rw [next_set]; exact hbl, get_set_same _ _ _, q.ow.mod (Mod.set (S := fun j => j = b) (Mod.refl _ _) _ _ fun _ => rfl) fun j hj e => hnb (e ▸ hj)⟩
  ·have d1 : decide ((2 : Int) = 1) = false := rfl
   have d2 : decide ((2 : Int) = 2) = true := rfl
   have hT := totW_nonneg hw
   simp (disch := first|exact dis|fail) only [go_sem, simprocAttr, ↓EU_rg, g0, g, d1, d2]
   repeat refine WPo_ob ?_
   refine (LP_rule (fun m st => ∃ (i : Nat) (tm : Fr) (k : Int), st = ⟨tm, h, []⟩ ∧ m = L.length - i ∧ i ≤ L.length ∧ Fr.get tm 0 = ptr b 0 ∧ Fr.get tm 5 = .int .i64 k ∧ Fr.get tm 6 = .int .i64 (spread base L) ∧ Fr.get tm 7 = .int .i64 (totW L) ∧ Fr.get tm 10 = .int .i64 i ∧ atO L k ((L.take i).foldl (dueStep (spread (leastP L).v L) (totW L) (leastP L).v) none))
    (fun r => ∃ tm k, r.2 = ⟨tm, h, []⟩ ∧ r.1 = .exit 3 ∧ Fr.get tm 0 = ptr b 0 ∧ Fr.get tm 5 = .int .i64 k ∧ atO L k (dueBest L)) ?_ L.length _ _ ?_ ?_).mono ?_
   ·rintro m _ ⟨i, tm, k, rfl, rfl, hi, g0, g5, g6, g7, g10, hk⟩
    simp (disch := first|exact dis|fail) only [go_sem, simprocAttr, ↓EU_rg, g0, g10, g]
    ((repeat refine WPo_ob ?_); (first | refine WPo_cond (fun b1 => ?_) (fun b1 => ?_) | refine WPo_gard (fun b1 => ?_) (fun b1 => ?_) | refine WPo_gardT (fun b1 => ?_) (fun b1 => ?_)) <;> (try simp only [Bool.not_eq_true', Bool.not_eq_false'] at b1))
    ·have b1' := b1
     simp only [decide_eq_true_eq] at b1'
     have hi' : i < L.length := by omega
     obtain ⟨x, hx⟩ : ∃ x, L[i]? = some x := ⟨_, List.getElem?_eq_getElem hi'⟩
     obtain ⟨b', o, c', e, hb', hrd, hr⟩ := q.ow.sl.at hx rfl
     cases e
     have hr2 := hr 2 _ rfl
     have hr3 := hr 3 _ rfl
     have hvx := hv x (List.mem_of_getElem? hx)
     have hff := foldl_snoc (dueStep (spread (leastP L).v L) (totW L) (leastP L).v) none hx
     have hiff := due_iff (leastP L).v base (totW L) L x rfl
     generalize hbo : (L.take i).foldl (dueStep (spread (leastP L).v L) (totW L) (leastP L).v) none = bo at *
     have hp : -2882303761517117440 ≤ (x.v - base) * totW L ∧ (x.v - base) * totW L ≤ 2882303761517117440 := by
      constructor
      ·have : (2251799813685248 + (x.v - base)) * totW L ≥ 0 := Int.mul_nonneg (by omega) (by omega)
       rw [Int.add_mul] at this
       omega
      ·have : (2251799813685248 - (x.v - base)) * totW L ≥ 0 := Int.mul_nonneg (by omega) (by omega)
       rw [Int.sub_mul] at this
       omega
     have w1 : wrapF .i64 (x.v - base) = x.v - base := wrap64 (by omega)
     have w2 : wrapF .i64 ((x.v - base) * totW L) = (x.v - base) * totW L := wrap64 (by omega)
     by_cases c0 : spread (leastP L).v L < (x.v - (leastP L).v) * totW L
     ·rw [dueStep_keep c0] at hff
      have d3 : decide ((x.v - base) * totW L ≤ spread base L) = false := decide_eq_false (by have := hiff.1 c0; omega)
      simp (disch := first|exact dis|fail) only [go_sem, simprocAttr, ↓EU_rg, g0, g5, g6, g7, g10, g, hr2, w1, w2, d3]
      exact ⟨_, by omega, i + 1, _, k, rfl, rfl, by omega, by simp (disch := first|exact dis|fail) only [go_sem, simprocAttr, ↓EU_rg, g0], by simp (disch := first|exact dis|fail) only [go_sem, simprocAttr, ↓EU_rg, g5], by simp (disch := first|exact dis|fail) only [go_sem, simprocAttr, ↓EU_rg, g6], by simp (disch := first|exact dis|fail) only [go_sem, simprocAttr, ↓EU_rg, g7], by simp (disch := first|exact dis|fail) only [go_sem, simprocAttr, ↓EU_rg], by rw [hff]; exact hk⟩
     ·have d3 : decide ((x.v - base) * totW L ≤ spread base L) = true := decide_eq_true (by have := fun e => c0 (hiff.2 e); omega)
      cases bo with
      | none =>
       rw [dueStep_none c0] at hff
       cases hk
       have d4 : decide ((-1 : Int) < 0) = true := rfl
       simp (disch := first|exact dis|fail) only [go_sem, simprocAttr, ↓EU_rg, g0, g5, g6, g7, g10, g, hr2, w1, w2, d3, d4]
       exact ⟨_, by omega, i + 1, _, i, rfl, rfl, by omega, by simp (disch := first|exact dis|fail) only [go_sem, simprocAttr, ↓EU_rg, g0], by simp (disch := first|exact dis|fail) only [go_sem, simprocAttr, ↓EU_rg], by simp (disch := first|exact dis|fail) only [go_sem, simprocAttr, ↓EU_rg, g6], by simp (disch := first|exact dis|fail) only [go_sem, simprocAttr, ↓EU_rg, g7], by simp (disch := first|exact dis|fail) only [go_sem, simprocAttr, ↓EU_rg], by rw [hff]; exact ⟨i, rfl, hx⟩⟩
      | some p0 =>
       rw [dueStep_some c0] at hff
       obtain ⟨j, rfl, hj⟩ := hk
       have hjl := (List.getElem?_eq_some_iff.1 hj).1
       have d4 : decide ((j : Int) < 0) = false := decide_eq_false (by omega)
       have dj : decide ((j : Int) < (L.length : Int)) = true := decide_eq_true (by omega)
       obtain ⟨b', o, c', e, _, hrd', hr'⟩ := q.ow.sl.at hj rfl
       cases e
       have hj3 := hr' 3 _ rfl
       by_cases c1 : x.day < p0.day
       ·have d5 : decide (x.day < p0.day) = true := decide_eq_true c1
        rw [if_pos c1] at hff
        simp (disch := first|exact dis|fail) only [go_sem, simprocAttr, ↓EU_rg, g0, g5, g6, g7, g10, g, hr2, hr3, hj3, w1, w2, d3, d4, dj, d5]
        exact ⟨_, by omega, i + 1, _, i, rfl, rfl, by omega, by simp (disch := first|exact dis|fail) only [go_sem, simprocAttr, ↓EU_rg, g0], by simp (disch := first|exact dis|fail) only [go_sem, simprocAttr, ↓EU_rg], by simp (disch := first|exact dis|fail) only [go_sem, simprocAttr, ↓EU_rg, g6], by simp (disch := first|exact dis|fail) only [go_sem, simprocAttr, ↓EU_rg, g7], by simp (disch := first|exact dis|fail) only [go_sem, simprocAttr, ↓EU_rg], by rw [hff]; exact ⟨i, rfl, hx⟩⟩
       ·have d5 : decide (x.day < p0.day) = false := decide_eq_false c1
        rw [if_neg c1] at hff
        simp (disch := first|exact dis|fail) only [go_sem, simprocAttr, ↓EU_rg, g0, g5, g6, g7, g10, g, hr2, hr3, hj3, w1, w2, d3, d4, dj, d5]
        exact ⟨_, by omega, i + 1, _, j, rfl, rfl, by omega, by simp (disch := first|exact dis|fail) only [go_sem, simprocAttr, ↓EU_rg, g0], by simp (disch := first|exact dis|fail) only [go_sem, simprocAttr, ↓EU_rg, g5], by simp (disch := first|exact dis|fail) only [go_sem, simprocAttr, ↓EU_rg, g6], by simp (disch := first|exact dis|fail) only [go_sem, simprocAttr, ↓EU_rg, g7], by simp (disch := first|exact dis|fail) only [go_sem, simprocAttr, ↓EU_rg], by rw [hff]; exact ⟨j, rfl, hj⟩⟩
    ·simp only [decide_eq_false_iff_not] at b1
     have : i = L.length := by omega
     subst this
     rw [List.take_length] at hk
     simp (disch := first|exact dis|fail) only [go_sem, simprocAttr, ↓EU_rg]
     exact ⟨_, k, rfl, trivial, by simp (disch := first|exact dis|fail) only [go_sem, simprocAttr, ↓EU_rg, g0], by simp (disch := first|exact dis|fail) only [go_sem, simprocAttr, ↓EU_rg, g5], hk⟩
   ·exact ⟨0, _, -1, rfl, rfl, by omega, by simp (disch := first|exact dis|fail) only [go_sem, simprocAttr, ↓EU_rg, g0], by simp (disch := first|exact dis|fail) only [go_sem, simprocAttr, ↓EU_rg, g5], by simp (disch := first|exact dis|fail) only [go_sem, simprocAttr, ↓EU_rg, g6], by simp (disch := first|exact dis|fail) only [go_sem, simprocAttr, ↓EU_rg, g7], by simp (disch := first|exact dis|fail) only [go_sem, simprocAttr, ↓EU_rg]; all_goals rfl, rfl⟩
   ·omega
   ·clear g0 g4 g5 g6 g7 tm
    rintro ⟨r, _⟩ ⟨tm, k, rfl, rfl, g0, g4, hk⟩
    obtain ⟨p0, hp0⟩ := Option.isSome_iff_exists.1 (dueBest_some hL0 hw)
    rw [hp0] at hk
    obtain ⟨f, rfl, hf⟩ := hk
    have hcur : curR 2 cur L = p0.id := curR_some (by rw [pickI_2, hp0]; rfl)
    have hfl := (List.getElem?_eq_some_iff.1 hf).1
    have df : decide ((f : Int) < (L.length : Int)) = true := decide_eq_true (by omega)
    have hxm : L[f]? = some p0 := hf
    obtain ⟨b', o, c', e, hb', hrd, hr⟩ := q.ow.sl.at hxm rfl
    cases e
    have hz0 := hr 0 _ rfl
    rw [add_z] at hz0
    have hbl := q.lt
    simp (disch := first|exact dis|fail) only [go_sem, simprocAttr, ↓EU_rg, g0, g4, g, hz0, df]
    refine ⟨?_, ?_, (Mod.refl _ _).set _ _ fun _ => rfl⟩
    ·rw [hsome, if_pos rfl, hcur]
    ·rw [hcur]
     exact ⟨by rw [next_set]; exact hbl, get_set_same _ _ _, q.ow.mod (Mod.set (S := fun j => j = b) (Mod.refl _ _) _ _ fun _ => rfl) fun j hj e => hnb (e ▸ hj)⟩
section
variable {α : Type} {e : α → List Value} {es : Nat} {h : Heap} {P : Program} {t : TypeId} {l : List α} {b o c : Nat}
theorem OW.parts (s : OW e es h (.slice (some ⟨b, o, none⟩) l.length c) l) : ∃ cs, b < h.next ∧ h.get b = .cells cs es ∧ l.length ≤ c / 2 ∧ o + (c / 2) * es ≤ cs.length ∧ ∀ i x, l[i]? = some x → (cs.drop (o + i * es)).take es = e x := by
 generalize hv : Value.slice (some ⟨b, o, none⟩) l.length c = v at s
 cases s with
 | nil => cases hv
 | mk b' o' c' l cs hb hc hcap hl hx =>
  injection hv with h1 h2 h3
  injection h1 with h1
  injection h1 with h4 h5 h6
  subst h4; subst h5; subst h3
  exact ⟨cs, hb, hc, hcap, hl, hx⟩
theorem OW.take (s : OW e es h (.slice (some ⟨b, o, none⟩) l.length c) l) {i : Nat} (hi : i ≤ l.length) : OW e es h (.slice (some ⟨b, o, none⟩) i c) (l.take i) := by
 obtain ⟨cs, hb, hc, hcap, hl, hx⟩ := s.parts
 have e1 : (l.take i).length = i := by rw [List.length_take]; omega
 have := OW.mk (e := e) (es := es) (h := h) b o c (l.take i) cs hb hc (by omega) hl fun j x hj => hx j x (by
  rw [List.getElem?_take] at hj
  split at hj
  ·exact hj
  ·cases hj)
 rw [e1] at this
 exact this
theorem cells_es {cs : List Value} (hc : h.get b = .cells cs es) : cellsEs (h.get b) = some es := by rw [hc]; rfl
theorem cut_own (ht : slT P t = some es) (s : OW e es h (.slice (some ⟨b, o, none⟩) l.length c) l) (k : IntKind) {i : Nat} (hi : i ≤ l.length) : CUT P h t (.slice (some ⟨b, o, none⟩) l.length c) none (some (.int k (i : Int))) none = some (.slice (some ⟨b, o, none⟩) i c, h) := by
 obtain ⟨cs, hb, hc, hcap, hl, hx⟩ := s.parts
 have ends : cutEnds l.length (c / 2) none (some (.int k (i : Int))) none = some (0, i, c / 2, false) := by
  unfold cutEnds
  simp only [natOf_nat, ble_nat (Nat.le_trans hi hcap), cnd_true]
 rw [CUT_sl, ht, ob_s, ends, ob_s]
 unfold evCutSl
 rw [Bool.false_or, Nat.zero_mul, Nat.add_zero, Nat.sub_zero, Nat.sub_zero]
 by_cases od : c % 2 = 1
 ·rw [beq_nat od, cnd_true]
  have e1 : cnd (Nat.beq (c / 2) 0) o o = o := by cases Nat.beq (c / 2) 0 <;> rfl
  have e2 : 2 * (c / 2) + 1 = c := by omega
  rw [e1, e2]
 ·have e1 : Nat.beq (c % 2) 1 = false := by
   cases hq : Nat.beq (c % 2) 1 with
   | false => rfl
   | true => exact absurd (Nat.eq_of_beq_eq_true hq) od
  have e2 : 2 * (c / 2) = c := by omega
  rw [e1, cnd_false, cells_es hc, ob_s, beq_nat rfl, gd_true, e2]
noncomputable def clT (P : Program) (t : TypeId) : Option (Nat × List Value) := ob (P.underlying t) fun d => ob (sliceE d) fun e => ob (sizeT P e) fun sz => ob (zeroT P e) fun z => gd (Nat.beq (cellsL z).length sz) (gd (Nat.ble 1 sz) (some (sz, cellsL (enc z))))
noncomputable def CLEAR (P : Program) (h : Heap) (t : TypeId) (x : Value) : VH := evClear P h t x
theorem clear_pos {n c' sz : Nat} {z : List Value} (hc : clT P t = some (sz, z)) (hn : n ≠ 0) : CLEAR P h t (.slice (some ⟨b, o, none⟩) n c') = ob (h.wr b o (zeroRow z n)) fun h' => some (undef, h') := by
 unfold clT at hc
 obtain ⟨d, h1, hc⟩ := ob_inv hc
 obtain ⟨e, h2, hc⟩ := ob_inv hc
 obtain ⟨s, h3, hc⟩ := ob_inv hc
 obtain ⟨z', h4, hc⟩ := ob_inv hc
 obtain ⟨h5, hc⟩ := gd_inv hc
 obtain ⟨h6, hc⟩ := gd_inv hc
 cases hc
 have h0 : Nat.beq n 0 = false := by
  cases hq : Nat.beq n 0 with
  | false => rfl
  | true => exact absurd (Nat.eq_of_beq_eq_true hq) hn
 unfold CLEAR evClear
 rw [h1, ob_some, h2, ob_some, h3, ob_some]
 show cnd (Nat.beq n 0) _ _ = _
 rw [h0, cnd_false, h4, ob_some, h5, gd_true, h6, gd_true]
theorem OW.clear (s : OW e es h (.slice (some ⟨b, o, none⟩) l.length c) l) {m c' : Nat} {z : List Value} (hc : clT P t = some (es, z)) (hz : z.length = es) (hzs : z.all scal = true) (hi : l.length < m) (hm : m ≤ c / 2) :
  ∃ h', CLEAR P h t (.slice (some ⟨b, o + l.length * es, none⟩) (m - l.length) c') = some (undef, h') ∧ OW e es h' (.slice (some ⟨b, o, none⟩) l.length c) l ∧ Mod (fun i => i = b) h h' ∧ h'.next = h.next := by
 obtain ⟨cs, hb, hcc, hcap, hl, hx⟩ := s.parts
 have hlen : (zeroRow z (m - l.length)).length = (m - l.length) * es := by unfold zeroRow; rw [List.length_map, List.length_range, hz]
 have hle : m * es ≤ (c / 2) * es := Nat.mul_le_mul_right _ hm
 have hsum : l.length * es + (m - l.length) * es = m * es := by rw [← Nat.add_mul]; congr 1; omega
 have hfit : o + l.length * es + (zeroRow z (m - l.length)).length ≤ cs.length := by omega
 have hall : (zeroRow z (m - l.length)).all scal = true := by
  generalize m - l.length = n
  induction n with
  | zero => rw [zeroRow_z]; rfl
  | succ n ih => rw [zeroRow_s, List.all_append, hzs, ih]; rfl
 rw [clear_pos hc (by omega), wr_eq, hcc, wrc_c _ _ _ _ _ _ hfit hall, ob_some]
 refine ⟨_, rfl, ?_, (Mod.refl _ _).set _ _ fun _ => rfl, next_set _ _ _⟩
 refine OW.mk b o c l _ (by rw [next_set]; exact hb) (get_set_same _ _ _) hcap (by rw [splice_len]; exact hl) fun i x hi => ?_
 rw [← hx i x hi]
 apply List.ext_getElem?
 intro j
 by_cases hj : j < es
 ·have hin := (List.getElem?_eq_some_iff.1 hi).1
  have h2 := Nat.mul_le_mul_right es (show i + 1 ≤ l.length from hin)
  rw [Nat.add_mul, Nat.one_mul] at h2
  rw [List.getElem?_take_of_lt hj, List.getElem?_take_of_lt hj, List.getElem?_drop, List.getElem?_drop, splice_get hfit, if_neg (by omega)]
 ·rw [List.getElem?_eq_none (by rw [List.length_take]; omega), List.getElem?_eq_none (by rw [List.length_take]; omega)]
end
theorem splice_set1 {cs ys : List Value} {o j n : Nat} {u : Value} (hn : ys.length = n) (hl : o + n ≤ cs.length) (hy : (cs.drop o).take n = ys) (hj : j < n) : splice cs o (ys.set j u) = cs.set (o + j) u := by
 apply List.ext_getElem?
 intro i
 have hs : (ys.set j u).length = n := by rw [List.length_set]; exact hn
 rw [splice_get (by rw [hs]; exact hl), hs]
 by_cases q : o ≤ i ∧ i < o + n
 ·rw [if_pos q, List.getElem?_set, List.getElem?_set]
  by_cases r : j = i - o
  ·rw [if_pos r, if_pos (by omega), if_pos (by omega), if_pos (by omega)]
  ·rw [if_neg r, if_neg (by omega), ← hy, List.getElem?_take_of_lt (by omega), List.getElem?_drop]
   congr 1; omega
 ·rw [if_neg q, List.getElem?_set, if_neg (by omega)]
theorem OW.put1 {α : Type} {e : α → List Value} {es : Nat} {h : Heap} {v : Value} {l : List α} (s : OW e es h v l) (hes : ∀ x, (e x).length = es) {i j : Nat} {x y : α} {u : Value} (hx : l[i]? = some x) (hj : j < es) (hy : e y = (e x).set j u) (hu : [u].all scal = true) :
  ∃ b o c cs, v = .slice (some ⟨b, o, none⟩) l.length c ∧ b < h.next ∧ h.get b = .cells cs es ∧ OW e es (h.set b (.cells (cs.set (o + i * es + j) u) es)) v (l.set i y) ∧ ∀ (h' : Heap), wrc h' b (o + i * es + j) [u] (.cells cs es) = some (h'.set b (.cells (cs.set (o + i * es + j) u) es)) := by
 have hi := (List.getElem?_eq_some_iff.1 hx).1
 obtain ⟨b0, o0, c0, e0, _, hr0, _⟩ := s.sl.at hx (hes x)
 obtain ⟨b, o, c, cs, e1, hb, hc, hfit, o1⟩ := s.put hes i y hi
 rw [e0] at e1
 cases e1
 rw [hc, rdc_c _ _ _ _ hfit] at hr0
 have hk : splice cs (o0 + i * es) (e y) = cs.set (o0 + i * es + j) u := by rw [hy]; exact splice_set1 (hes x) hfit (Option.some.inj hr0) hj
 rw [hk] at o1
 refine ⟨b0, o0, c0, cs, e0, hb, hc, o1, fun h' => ?_⟩
 rw [wrc_c _ _ _ _ _ _ (by simp only [List.length_cons, List.length_nil]; omega) hu]
 rfl
theorem nowI_id {cur : Int} {l : List Pnt} {i : Nat} {x : Pnt} (h : nowI cur l = some i) (hx : l[i]? = some x) : x.id = cur := by
 unfold nowI at h
 rw [List.findIdx?_eq_some_iff_getElem] at h
 obtain ⟨hl, h1, _⟩ := h
 rw [List.getElem?_eq_getElem hl] at hx
 cases hx
 unfold byPid at h1
 simpa using h1
set_option maxHeartbeats 1000000 in
theorem rqcharge_ev {tag base cur : Int} {l : List Pnt} {v : Value} {b : Nat} {h : Heap} (q : RQ h b v tag base cur l) (hl : l.length < 900000) (hc : Calm l) :
  WPo (EF Tryz.prog O0 29 [ptr b 0] h) fun r => r.1 = .tuple ⟨[.int .i64 (chN cur l), .int .i64 (chE cur l)]⟩ ∧ RQ r.2 b v tag (chB base cur l) cur (chL cur l) ∧ Mod (fun j => j = b ∨ blkOf v j) h r.2 := by
 have g := q.gb
 have hb := q.lt
 have hat := rqat_ev q (by omega) cur
 rw [idx_now] at hat
 rw [EF_body (O := O0) (by kernel_rfl) Tryz.func29 rfl (rs := [.tmp 2, .tmp 3]) rfl (bad := [9]) (by kernel_rfl) _ _ (m := 99) rfl]
 unfold chN chE chB chL
 cases hn : nowI cur l with
 | none =>
  rw [hn] at hat
  have d1 : decide ((-1 : Int) < 0) = true := rfl
  simp (disch := first|exact dis|fail) only [go_sem, Int.reduceToNat, Nat.reduceMul, Nat.reduceAdd, Nat.reduceSub, ↓EU_rg, g, hat, d1]
  exact ⟨rfl, q, Mod.refl _ _⟩
 | some i =>
  rw [hn] at hat
  simp only at hat
  have hil := nowI_lt hn
  obtain ⟨x, hx⟩ : ∃ x, l[i]? = some x := ⟨_, List.getElem?_eq_getElem hil⟩
  have hxd : l.getD i zP = x := by rw [List.getD_eq_getElem?_getD, hx]; rfl
  have hid := nowI_id hn hx
  have hcx := hc x (List.mem_of_getElem? hx)
  have hst := wstep_le x.w
  have d1 : decide ((i : Int) < 0) = false := decide_eq_false (by omega)
  have d2 : decide ((2305843009213693952 : Int) < x.v + wstep x.w) = false := decide_eq_false (by omega)
  have hw : wrapF .i64 (x.v + wstep x.w) = x.v + wstep x.w := wrap64 (by omega)
  have hw2 : wrapF .i64 (x.v + wstep x.w + 4 * wstep x.w) = x.v + wstep x.w + 4 * wstep x.w := wrap64 (by omega)
  simp only [hxd]
  obtain ⟨B, o, c, e, hB, hrd, hr⟩ := q.ow.sl.at hx rfl
  have hr1 := hr 1 _ rfl
  have hr2 := hr 2 _ rfl
  obtain ⟨x1, hx1⟩ : ∃ x1 : Pnt, x1 = ⟨x.id, x.w, x.v + wstep x.w, x.day⟩ := ⟨_, rfl⟩
  obtain ⟨B', o', c', cs, e', _, hcs, o1, hwr⟩ := q.ow.put1 pntE_len (y := x1) (u := .int .i64 (x.v + wstep x.w)) (j := 2) hx (by decide) (by rw [hx1]; rfl) rfl
  rw [e] at e'
  cases e'
  subst e
  have hbB : b ≠ B := fun e => by rw [← e, g] at hcs; cases hcs
  have hw1 := hwr h
  rw [← hcs] at hw1
  have hil1 : (l.set i x1)[i]? = some x1 := by rw [List.getElem?_set_self hil]
  obtain ⟨B', o', c', e', _, _, hs⟩ := o1.sl.at hil1 rfl
  rw [List.length_set] at e'
  cases e'
  have s1 := hs 1 _ rfl
  have s2 := hs 2 _ rfl
  have s3 := hs 3 _ rfl
  rw [get_set_same, rdc1_c] at s1 s2 s3
  have ew : x1.w = x.w := by rw [hx1]
  have ev : x1.v = x.v + wstep x.w := by rw [hx1]
  have ed : x1.day = x.day := by rw [hx1]
  rw [ew] at s1
  rw [ev] at s2
  rw [ed] at s3
  have m1 : Mod (fun j => j = b ∨ blkOf (.slice (some ⟨B, o, none⟩) l.length c) j) h (h.set B (.cells (cs.set (o + i * 4 + 2) (.int .i64 (x.v + wstep x.w))) 4)) := (Mod.refl _ _).set _ _ fun _ => .inr rfl
  have q1 : RQ (h.set B (.cells (cs.set (o + i * 4 + 2) (.int .i64 (x.v + wstep x.w))) 4)) b (.slice (some ⟨B, o, none⟩) l.length c) tag base cur (l.set i x1) := ⟨by rw [next_set]; exact hb, (get_set_ne _ hbB).trans g, o1⟩
  by_cases hday : x.day ≤ x.v + wstep x.w
  ·have hd2 : decide (x.day ≤ x.v + wstep x.w) = true := decide_eq_true hday
   have hch : chP x = ⟨x.id, x.w, x.v + wstep x.w, x.v + wstep x.w + 4 * wstep x.w⟩ := by unfold chP; rw [if_pos hday]; rfl
   obtain ⟨B', o', c', cs', e', _, hcs', o2, hwr2⟩ := o1.put1 pntE_len (y := chP x) (u := .int .i64 (x.v + wstep x.w + 4 * wstep x.w)) (j := 3) hil1 (by decide) (by rw [hch, hx1]; rfl) rfl
   rw [List.length_set] at e'
   cases e'
   rw [get_set_same] at hcs'
   cases hcs'
   rw [set_set] at o2
   rw [List.set_set] at o2
   have hw3 := hwr2 (h.set B (.cells (cs.set (o + i * 4 + 2) (.int .i64 (x.v + wstep x.w))) 4))
   rw [set_set] at hw3
   have q2 : RQ (h.set B (.cells ((cs.set (o + i * 4 + 2) (.int .i64 (x.v + wstep x.w))).set (o + i * 4 + 3) (.int .i64 (x.v + wstep x.w + 4 * wstep x.w))) 4)) b (.slice (some ⟨B, o, none⟩) l.length c) tag base cur (l.set i (chP x)) := ⟨by rw [next_set]; exact hb, (get_set_ne _ hbB).trans g, o2⟩
   have m2 : Mod (fun j => j = b ∨ blkOf (.slice (some ⟨B, o, none⟩) l.length c) j) h (h.set B (.cells ((cs.set (o + i * 4 + 2) (.int .i64 (x.v + wstep x.w))).set (o + i * 4 + 3) (.int .i64 (x.v + wstep x.w + 4 * wstep x.w))) 4)) := (Mod.refl _ _).set _ _ fun _ => .inr rfl
   simp (disch := first|exact dis|fail) only [go_sem, Int.reduceToNat, Nat.reduceMul, Nat.reduceAdd, Nat.reduceSub, ↓EU_rg, g, hat, d1, hr1, hr2, rstep_ev, hw, d2, hw1, s2, s3, hd2]
   rw [EU_bad _ _ rfl, EC_tab (tab := [(false, none), (false, none), (false, none), (false, (some (0, 1))), (false, none), (false, none), (false, none), (false, none), (false, (some (0, 1))), (false, none), (false, none), (false, none), (false, (some (0, 1))), (false, none), (false, none), (false, none), (false, none), (false, none), (false, none), (false, none), (false, none), (true, none), (false, none), (false, none), (false, none), (true, none)]) (by kernel_rfl)]
   simp (disch := first|exact dis|fail) only [go_sem, Int.reduceToNat, Nat.reduceMul, Nat.reduceAdd, Nat.reduceSub, ↓EU_rg, g, hat, d1, s1, s2, s3, rday_ev, hw2, hw3]
   generalize h.set B (.cells ((cs.set (o + i * 4 + 2) (.int .i64 (x.v + wstep x.w))).set (o + i * 4 + 3) (.int .i64 (x.v + wstep x.w + 4 * wstep x.w))) 4) = h2 at *
   repeat refine WPo_ob ?_
   refine (rqgrow_ev q2 (by rw [List.length_set]; exact hl)).mono ?_
   rintro ⟨w, h3⟩ ⟨q3, m3⟩
   simp only at q3 m3
   have g3 := q3.gb
   simp (disch := first|exact dis|fail) only [go_sem, Int.reduceToNat, Nat.reduceMul, Nat.reduceAdd, Nat.reduceSub, ↓EU_rg, g3, hid]
   exact ⟨rfl, q3, m2.trans (m3.mono fun _ _ e => .inl e)⟩
  ·have hd2 : decide (x.day ≤ x.v + wstep x.w) = false := decide_eq_false hday
   have hch : chP x = x1 := by unfold chP; rw [if_neg hday, hx1]
   rw [hch]
   simp (disch := first|exact dis|fail) only [go_sem, Int.reduceToNat, Nat.reduceMul, Nat.reduceAdd, Nat.reduceSub, ↓EU_rg, g, hat, d1, hr1, hr2, rstep_ev, hw, d2, hw1, s2, s3, hd2]
   generalize h.set B (.cells (cs.set (o + i * 4 + 2) (.int .i64 (x.v + wstep x.w))) 4) = h1 at *
   repeat refine WPo_ob ?_
   refine (rqgrow_ev q1 (by rw [List.length_set]; exact hl)).mono ?_
   rintro ⟨w, h2⟩ ⟨q2, m2⟩
   simp only at q2 m2
   have g2 := q2.gb
   simp (disch := first|exact dis|fail) only [go_sem, Int.reduceToNat, Nat.reduceMul, Nat.reduceAdd, Nat.reduceSub, ↓EU_rg, g2, hid]
   exact ⟨rfl, q2, m1.trans (m2.mono fun _ _ e => .inl e)⟩
section
variable {cb tb : Nat} {h : Heap} {tg bs st why age : Int} {bv qv : Value} {f : Nat → Bool}
noncomputable def forceF (f : Nat → Bool) (k : Nat) (i : Nat) : Bool := if i = k then true else f i
noncomputable def canForce (st k : Int) : Bool := decide (st < 5) && (decide (1 ≤ k) && (decide (k ≤ 5) && decide (st < k)))
theorem force_ev (ht : h.get tb = .cells (tryL cb tg bs st why age bv qv f) 0) (k : Int) (h0 : 0 ≤ st) :
  EF Tryz.prog O0 20 [ptr tb 0, .int .i64 k] h = some (.bool (canForce st k), if canForce st k = true then h.set tb (.cells (tryL cb tg bs st why age bv qv (forceF f k.toNat)) 0) else h) := by
 have : WPo (EF Tryz.prog O0 20 [ptr tb 0, .int .i64 k] h) fun q => q = (.bool (canForce st k), if canForce st k = true then h.set tb (.cells (tryL cb tg bs st why age bv qv (forceF f k.toNat)) 0) else h) := by
  have hO := stageOver_ev ht
  have ht' := ht
  unfold tryL at ht'
  rw [EF_body (O := O0) (by kernel_rfl) Tryz.func20 rfl (rs := [.tmp 4]) rfl (bad := []) (by kernel_rfl) _ _ (m := 28) rfl]
  cases hc : canForce st k with
  | true =>
   unfold canForce at hc
   simp only [Bool.and_eq_true, decide_eq_true_eq] at hc
   rw [decide_eq_false (by omega)] at hO
   have d1 : decide (k < 1) = false := decide_eq_false (by omega)
   have d2 : decide (5 < k) = false := decide_eq_false (by omega)
   have d3 : decide (k ≤ st) = false := decide_eq_false (by omega)
   have hk : k = 1 ∨ k = 2 ∨ k = 3 ∨ k = 4 ∨ k = 5 := by omega
   rcases hk with rfl | rfl | rfl | rfl | rfl
   all_goals
    simp (disch := first|exact dis|fail) only [go_sem, simprocAttr, ↓EU_rg, ht', hO, d1, d2, d3, if_true]
    rfl
  | false =>
   unfold canForce at hc
   simp only [Bool.and_eq_false_iff, decide_eq_false_iff_not] at hc
   by_cases c0 : 5 ≤ st
   ·rw [decide_eq_true c0] at hO
    simp (disch := first|exact dis|fail) only [go_sem, simprocAttr, ↓EU_rg, hO, if_false, Bool.false_eq_true]
   ·rw [decide_eq_false c0] at hO
    by_cases c1 : k < 1
    ·have d1 : decide (k < 1) = true := decide_eq_true c1
     simp (disch := first|exact dis|fail) only [go_sem, simprocAttr, ↓EU_rg, hO, d1, if_false, Bool.false_eq_true]
    ·have d1 : decide (k < 1) = false := decide_eq_false c1
     by_cases c2 : 5 < k
     ·have d2 : decide (5 < k) = true := decide_eq_true c2
      simp (disch := first|exact dis|fail) only [go_sem, simprocAttr, ↓EU_rg, hO, d1, d2, if_false, Bool.false_eq_true]
     ·have d2 : decide (5 < k) = false := decide_eq_false c2
      have d3 : decide (k ≤ st) = true := decide_eq_true (by omega)
      simp (disch := first|exact dis|fail) only [go_sem, simprocAttr, ↓EU_rg, ht', hO, d1, d2, d3, if_false, Bool.false_eq_true]
 obtain ⟨q, e, rfl⟩ := this
 exact e
noncomputable def xorL (l : List UInt8) (i : Nat) (y : UInt8) : List UInt8 := l.set i (l.getD i 0 ^^^ y)
noncomputable def canAt (st : Int) (n : Nat) (k : Int) : Bool := decide (st = 2) && (decide (0 ≤ k) && decide (k < n))
theorem spoil_ev (ht : h.get tb = .cells (tryL cb tg bs st why age bv qv f) 0) {b : List UInt8} (ho : OW byteE 1 h bv b) (hl : b.length < 900000) (k : Int) (y : UInt8) :
  WPo (EF Tryz.prog O0 18 [ptr tb 0, .int .i64 k, .int .u8 y.toNat] h) fun q => q.1 = .bool (canAt st b.length k) ∧ if canAt st b.length k = true then OW byteE 1 q.2 bv (xorL b k.toNat y) ∧ Mod (blkOf bv) h q.2 else q.2 = h := by
 have ht' := ht
 unfold tryL at ht'
 rw [EF_body (O := O0) (by kernel_rfl) Tryz.func18 rfl (rs := [.tmp 6]) rfl (bad := []) (by kernel_rfl) _ _ (m := 35) rfl]
 obtain ⟨a, c, e⟩ := ho.val
 subst e
 cases hc : canAt st b.length k with
 | true =>
  unfold canAt at hc
  simp only [Bool.and_eq_true, decide_eq_true_eq] at hc
  obtain ⟨rfl, hk0, hk1⟩ := hc
  obtain ⟨i, rfl⟩ : ∃ i : Nat, k = i := ⟨k.toNat, by omega⟩
  have d0 : decide ((2 : Int) = 2) = true := rfl
  have d1 : decide ((i : Int) < 0) = false := decide_eq_false (by omega)
  have d2 : decide ((b.length : Int) ≤ (i : Int)) = false := decide_eq_false (by omega)
  have d3 : decide ((i : Int) < (b.length : Int)) = true := decide_eq_true (by omega)
  obtain ⟨x, hx⟩ : ∃ x, b[i]? = some x := ⟨_, List.getElem?_eq_getElem (by omega)⟩
  have hxd : b.getD i 0 = x := by rw [List.getD_eq_getElem?_getD, hx]; rfl
  obtain ⟨B, o, c', e, _, hrd, hr⟩ := ho.sl.at hx rfl
  cases e
  have hr0 := hr 0 _ rfl
  obtain ⟨B', o', c', cs, e', hB, hcs, o1, hwr⟩ := ho.put1 byteE_len (y := x ^^^ y) (u := .int .u8 ((x.toNat ^^^ y.toNat : Nat) : Int)) (j := 0) hx (by decide) (by unfold byteE; rw [UInt8.toNat_xor]; rfl) rfl
  cases e'
  have hw := hwr h
  rw [← hcs] at hw
  rw [add_z] at hr0 hw
  have hxor := fun t p q => bin_xorN Tryz.prog t p q (k := .u8) (n := x.toNat) (m := y.toNat) rfl (by have := x.toNat_lt; exact this) (by have := y.toNat_lt; exact this)
  have hxl : xorL b i y = b.set i (x ^^^ y) := by unfold xorL; rw [hxd]
  simp (disch := first|exact dis|fail) only [go_sem, simprocAttr, ↓EU_rg, ht', d0, d1, d2, d3, hr0, hxor, hw, if_true]
  rw [hxl]
  exact ⟨trivial, o1, (Mod.refl _ _).set _ _ fun _ => rfl⟩
 | false =>
  unfold canAt at hc
  simp only [Bool.and_eq_false_iff, decide_eq_false_iff_not] at hc
  by_cases c0 : st = 2
  ·have d0 : decide (st = 2) = true := decide_eq_true c0
   by_cases c1 : k < 0
   ·have d1 : decide (k < 0) = true := decide_eq_true c1
    simp (disch := first|exact dis|fail) only [go_sem, simprocAttr, ↓EU_rg, ht', d0, d1, if_false, Bool.false_eq_true]
    exact ⟨trivial, trivial⟩
   ·have d1 : decide (k < 0) = false := decide_eq_false c1
    have d2 : decide ((b.length : Int) ≤ k) = true := decide_eq_true (by omega)
    simp (disch := first|exact dis|fail) only [go_sem, simprocAttr, ↓EU_rg, ht', d0, d1, d2, if_false, Bool.false_eq_true]
    exact ⟨trivial, trivial⟩
  ·have d0 : decide (st = 2) = false := decide_eq_false c0
   simp (disch := first|exact dis|fail) only [go_sem, simprocAttr, ↓EU_rg, ht', d0, if_false, Bool.false_eq_true]
   exact ⟨trivial, trivial⟩
noncomputable def canCut (st : Int) (n : Nat) (k : Int) : Bool := decide (st = 2) && (decide (1 ≤ k) && decide (k ≤ n))
theorem cut_ev' (ht : h.get tb = .cells (tryL cb tg bs st why age bv qv f) 0) {b : List UInt8} (ho : OW byteE 1 h bv b) (hl : b.length < 900000) (k : Int) :
  WPo (EF Tryz.prog O0 19 [ptr tb 0, .int .i64 k] h) fun q => q.1 = .bool (canCut st b.length k) ∧ if canCut st b.length k = true then ∃ u, q.2 = h.set tb (.cells (tryL cb tg bs st why age u qv f) 0) ∧ OW byteE 1 q.2 u (b.take (b.length - k.toNat)) ∧ (∀ i, blkOf u i → blkOf bv i) else q.2 = h := by
 have ht' := ht
 unfold tryL at ht'
 rw [EF_body (O := O0) (by kernel_rfl) Tryz.func19 rfl (rs := [.tmp 4]) rfl (bad := []) (by kernel_rfl) _ _ (m := 38) rfl]
 cases hc : canCut st b.length k with
 | true =>
  unfold canCut at hc
  simp only [Bool.and_eq_true, decide_eq_true_eq] at hc
  obtain ⟨rfl, hk0, hk1⟩ := hc
  obtain ⟨i, rfl⟩ : ∃ i : Nat, k = i := ⟨k.toNat, by omega⟩
  have d0 : decide ((2 : Int) = 2) = true := rfl
  have d1 : decide ((i : Int) < 1) = false := decide_eq_false (by omega)
  have d2 : decide ((b.length : Int) < (i : Int)) = false := decide_eq_false (by omega)
  obtain ⟨x, hx⟩ : ∃ x, b[0]? = some x := ⟨_, List.getElem?_eq_getElem (by omega)⟩
  obtain ⟨B, o, c, e, _, hrd, hr⟩ := ho.sl.at hx rfl
  subst e
  have hsub : wrapF .i64 ((b.length : Int) - (i : Int)) = ((b.length - i : Nat) : Int) := by rw [wrap64 (by omega)]; omega
  have hct := cut_own (P := Tryz.prog) (t := 37) fc_sl_37 ho .i64 (i := b.length - i) (by omega)
  have ot := ho.take (i := b.length - i) (by omega)
  simp (disch := first|exact dis|fail) only [go_sem, simprocAttr, ↓EU_rg, ht', d0, d1, d2, hsub, hct, if_true]
  exact ⟨trivial, _, rfl, ot.mod (setM h tb _) fun j hj e => by subst e; exact ow_ne ho ht (by decide) hj, fun j hj => hj⟩
 | false =>
  unfold canCut at hc
  simp only [Bool.and_eq_false_iff, decide_eq_false_iff_not] at hc
  obtain ⟨a, c, e⟩ := ho.val
  subst e
  by_cases c0 : st = 2
  ·have d0 : decide (st = 2) = true := decide_eq_true c0
   by_cases c1 : k < 1
   ·have d1 : decide (k < 1) = true := decide_eq_true c1
    simp (disch := first|exact dis|fail) only [go_sem, simprocAttr, ↓EU_rg, ht', d0, d1, if_false, Bool.false_eq_true]
    exact ⟨trivial, trivial⟩
   ·have d1 : decide (k < 1) = false := decide_eq_false c1
    have d2 : decide ((b.length : Int) < k) = true := decide_eq_true (by omega)
    simp (disch := first|exact dis|fail) only [go_sem, simprocAttr, ↓EU_rg, ht', d0, d1, d2, if_false, Bool.false_eq_true]
    exact ⟨trivial, trivial⟩
  ·have d0 : decide (st = 2) = false := decide_eq_false c0
   simp (disch := first|exact dis|fail) only [go_sem, simprocAttr, ↓EU_rg, ht', d0, if_false, Bool.false_eq_true]
   exact ⟨trivial, trivial⟩
end
theorem readR_len (l : List UInt8) : (readR l).2.2.2.1.length ≤ 64 := by
 by_cases h : (readR l).2.2.2.2 = 0
 ·exact lnGood_len (cgood_facts (readR_good h)).2.2
 ·unfold readR at *
  cases ho : openN l with
  | none => exact Nat.zero_le _
  | some p =>
   rw [ho] at h
   dsimp only at *
   cases hv : versionN p with
   | none => exact Nat.zero_le _
   | some v =>
    rw [hv] at h
    dsimp only at *
    by_cases c : v < 1 ∨ 3 < v
    ·rw [if_pos c]; exact Nat.zero_le _
    ·rw [if_neg c] at h ⊢
     unfold bodyV at *
     by_cases c2 : p.length < 5 + curL v ∨ p.length ≠ 5 + curL v + szV v * bN p (4 + curL v)
     ·rw [if_pos c2]; exact Nat.zero_le _
     ·rw [if_neg c2] at h ⊢
      cases c3 : (decide (bN p 3 ≤ 2) && goodF (curV v p) (decVs v (bN p (4 + curL v)) (p.drop (5 + curL v)))) with
      | false => exact Nat.zero_le _
      | true => rw [c3] at h; exact absurd rfl h
theorem ow_disj {α β : Type} {e : α → List Value} {e' : β → List Value} {es es' : Nat} {h : Heap} {v v' : Value} {l : List α} {l' : List β} (s : OW e es h v l) (s' : OW e' es' h v' l') (hne : es ≠ es') {j : Nat} (h1 : blkOf v j) (h2 : blkOf v' j) : False := by
 obtain ⟨c, e1⟩ := ow_cells s h1
 exact ow_ne s' e1 (fun e => hne e.symm) h2
structure PH (h : Heap) (cb tb qb lb mb wb : Nat) (v bv rv wv : Value) (tag to base cur : Int) (l : List Pnt) (idle age : Int) (st why tage : Int) (qv : Value) (f : Nat → Bool) (B R : List UInt8) : Prop where
 cq : CQ h cb qb lb mb v tag base cur l idle age
 tl : tb < h.next
 tg : h.get tb = .cells (tryL cb to 0 st why tage bv qv f) 0
 ob : OW byteE 1 h bv B
 orr : OW byteE 1 h rv R
 rq : RQ h wb wv tag base cur l
 d1 : ∀ j, blkOf v j → ¬ blkOf wv j
 d2 : ∀ j, blkOf bv j → ¬ blkOf rv j
section
variable {h h' : Heap} {cb tb qb lb mb wb : Nat} {v bv rv wv : Value} {tag to base cur : Int} {l : List Pnt} {idle age st why tage : Int} {qv : Value} {f : Nat → Bool} {B R : List UInt8}
theorem PH.ext (p : PH h cb tb qb lb mb wb v bv rv wv tag to base cur l idle age st why tage qv f B R) (x : Ext h h') : PH h' cb tb qb lb mb wb v bv rv wv tag to base cur l idle age st why tage qv f B R :=
 ⟨p.cq.ext x, Nat.lt_of_lt_of_le p.tl x.le, (x.old tb p.tl).trans p.tg, p.ob.ext x, p.orr.ext x, p.rq.ext x, p.d1, p.d2⟩
theorem PH.tbv (p : PH h cb tb qb lb mb wb v bv rv wv tag to base cur l idle age st why tage qv f B R) : ¬ blkOf bv tb ∧ ¬ blkOf rv tb ∧ ¬ blkOf wv tb ∧ tb ≠ wb :=
 ⟨ow_ne p.ob p.tg (by decide), ow_ne p.orr p.tg (by decide), ow_ne p.rq.ow p.tg (by decide), fun e => by have := p.rq.gb; rw [← e, p.tg] at this; unfold tryL at this; cases this⟩
theorem PH.tryB (p : PH h cb tb qb lb mb wb v bv rv wv tag to base cur l idle age st why tage qv f B R) (m : Mod (fun j => j = tb) h h') {st' why' tage' : Int} {qv' bv' : Value} {f' : Nat → Bool} {B' : List UInt8} (ht : h'.get tb = .cells (tryL cb to 0 st' why' tage' bv' qv' f') 0) (ho : OW byteE 1 h' bv' B') (hd : ∀ j, blkOf bv' j → ¬ blkOf rv j) : PH h' cb tb qb lb mb wb v bv' rv wv tag to base cur l idle age st' why' tage' qv' f' B' R := by
 obtain ⟨n1, n2, n3, n4⟩ := p.tbv
 exact ⟨p.cq.modT p.tg m, Nat.lt_of_lt_of_le p.tl m.le, ht, ho, p.orr.mod m fun j hj e => n2 (e ▸ hj), p.rq.mod m (fun e => n4 e.symm) fun j hj e => n3 (e ▸ hj), p.d1, hd⟩
theorem PH.tryM (p : PH h cb tb qb lb mb wb v bv rv wv tag to base cur l idle age st why tage qv f B R) (m : Mod (fun j => j = tb) h h') {st' why' tage' : Int} {qv' : Value} {f' : Nat → Bool} (ht : h'.get tb = .cells (tryL cb to 0 st' why' tage' bv qv' f') 0) : PH h' cb tb qb lb mb wb v bv rv wv tag to base cur l idle age st' why' tage' qv' f' B R :=
 p.tryB m ht (p.ob.mod m fun j hj e => p.tbv.1 (e ▸ hj)) p.d2
theorem PH.cbw (p : PH h cb tb qb lb mb wb v bv rv wv tag to base cur l idle age st why tage qv f B R) : cb ≠ wb ∧ qb ≠ wb ∧ lb ≠ wb ∧ mb ≠ wb := by
 have g := p.rq.gb
 refine ⟨fun e => ?_, fun e => ?_, fun e => ?_, fun e => ?_⟩
 ·have := p.cq.gb; rw [e, g] at this; cases this
 ·have := p.cq.pq.gb; rw [e, g] at this; cases this
 ·have := p.cq.pq.lq.gb; rw [e, g] at this; cases this
 ·exact p.cq.mne g e.symm
theorem CQ.row {α : Type} {e : α → List Value} {es : Nat} {u : Value} {m : List α} (q : CQ h cb qb lb mb v tag base cur l idle age) (o : OW e es h u m) (h0 : es ≠ 0) {j : Nat} (hj : blkOf u j) : j ≠ cb ∧ j ≠ qb ∧ j ≠ lb ∧ j ≠ mb := by
 obtain ⟨cs, e1⟩ := ow_cells o hj
 refine ⟨fun e => ?_, fun e => ?_, fun e => ?_, fun e => q.mne e1 e⟩
 ·subst e; rw [q.gb] at e1; cases e1; exact h0 rfl
 ·subst e; rw [q.pq.gb] at e1; cases e1; exact h0 rfl
 ·subst e; rw [q.pq.lq.gb] at e1; cases e1; exact h0 rfl
theorem CQ.keep {S : Nat → Prop} (q : CQ h cb qb lb mb v tag base cur l idle age) (m : Mod S h h') (h1 : ∀ j, S j → j ≠ cb ∧ j ≠ qb ∧ j ≠ lb ∧ j ≠ mb) (h2 : ∀ j, blkOf v j → ¬ S j) : CQ h' cb qb lb mb v tag base cur l idle age :=
 q.mod m (fun e => (h1 _ e).1 rfl) (fun e => (h1 _ e).2.1 rfl) (fun e => (h1 _ e).2.2.1 rfl) (fun e => (h1 _ e).2.2.2 rfl) h2
theorem PH.run (p : PH h cb tb qb lb mb wb v bv rv wv tag to base cur l idle age st why tage qv f B R) (m : Mod (fun j => j = cb ∨ j = mb ∨ j = lb ∨ blkOf v j) h h') : tb < h'.next ∧ h'.get tb = .cells (tryL cb to 0 st why tage bv qv f) 0 ∧ OW byteE 1 h' bv B ∧ OW byteE 1 h' rv R ∧ RQ h' wb wv tag base cur l := by
 obtain ⟨n1, n2, n3, n4⟩ := p.cbw
 have kb : ∀ {u : Value} {X : List UInt8}, OW byteE 1 h u X → OW byteE 1 h' u X := fun o => o.mod m fun j hj e => by
  have := p.cq.row o (by decide) hj
  rcases e with e | e | e | e
  ·exact this.1 e
  ·exact this.2.2.2 e
  ·exact this.2.2.1 e
  ·exact ow_disj o p.cq.pq.lq.ow (by decide) hj e
 refine ⟨Nat.lt_of_lt_of_le p.tl m.le, (m.old tb p.tl fun e => ?_).trans p.tg, kb p.ob, kb p.orr, p.rq.mod m (fun e => ?_) fun j hj e => ?_⟩
 ·rcases e with e | e | e | e
  ·exact p.cq.tne p.tg e.symm
  ·exact p.cq.mne p.tg e
  ·have := p.cq.pq.lq.gb; rw [← e, p.tg] at this; unfold tryL at this; cases this
  ·exact ow_ne p.cq.pq.lq.ow p.tg (by decide) e
 ·rcases e with e | e | e | e
  ·exact n1 e.symm
  ·exact n4 e.symm
  ·exact n3 e.symm
  ·exact ow_ne p.cq.pq.lq.ow p.rq.gb (by decide) e
 ·have := p.cq.row p.rq.ow (by decide) hj
  rcases e with e | e | e | e
  ·exact this.1 e
  ·exact this.2.2.2 e
  ·exact this.2.2.1 e
  ·exact p.d1 j e hj
theorem PH.bytes {u : Value} (p : PH h cb tb qb lb mb wb v bv rv wv tag to base cur l idle age st why tage qv f B R) {X : List UInt8} (o : OW byteE 1 h u X) (m : Mod (blkOf u) h h') : CQ h' cb qb lb mb v tag base cur l idle age ∧ tb < h'.next ∧ h'.get tb = .cells (tryL cb to 0 st why tage bv qv f) 0 ∧ RQ h' wb wv tag base cur l := by
 refine ⟨p.cq.keep m (fun j e => p.cq.row o (by decide) e) fun j hj e => ow_disj p.cq.pq.lq.ow o (by decide) hj e, Nat.lt_of_lt_of_le p.tl m.le, (m.old tb p.tl (ow_ne o p.tg (by decide))).trans p.tg, p.rq.mod m (ow_ne o p.rq.gb (by decide)) fun j hj e => ow_disj p.rq.ow o (by decide) hj e⟩
end
theorem fill_ev (tag cur : Int) (l : List Item) (s : Value) (h : Heap) (hs : SL itemE 3 h s l) (hl : l.length < 900000) :
  WPo (EF Tryz.prog O0 8 [.int .i64 tag, formV cur s] h) fun q => Ext h q.2 ∧ if tgood tag && goodF cur l then ∃ cb qb lb mb v, q.1 = ptr cb 0 ∧ CQ q.2 cb qb lb mb v tag 0 cur (l.map (ptI 0)) 0 0 ∧ h.next ≤ cb ∧ h.next ≤ qb ∧ h.next ≤ lb ∧ h.next ≤ mb ∧ Fresh h.next v else q.1 = nilP := by
 have hS := coreSeed_ev tag 0 cur l s (h.push (.cells [.int .i64 cur, s] 0)) (hs.ext ((Ext.refl h).push _)) hl
 rw [show bgood 0 = true by decide, Bool.true_and] at hS
 unfold formV at *
 rw [EF_body (O := O0) (by kernel_rfl) Tryz.func8 rfl (rs := [.tmp 4]) rfl (bad := []) (by kernel_rfl) _ _ (m := 16) rfl]
 simp (disch := first|exact dis|fail) only [go_sem, simprocAttr, ↓EU_rg]
 repeat refine WPo_ob ?_
 refine hS.mono ?_
 rintro ⟨w, h1⟩ ⟨x1, k⟩
 have xh : Ext h h1 := ((Ext.refl h).push _).trans x1
 cases hg : (tgood tag && goodF cur l) with
 | false =>
  rw [hg, if_neg (by decide)] at k
  simp only at k
  subst k
  unfold nilP
  simp (disch := first|exact dis|fail) only [go_sem, simprocAttr, ↓EU_rg, Int.reduceEq, if_false, Bool.false_eq_true]
  exact ⟨xh, trivial⟩
 | true =>
  rw [hg, if_pos rfl] at k
  obtain ⟨cb, qb, lb, mb, v, e, cq, h1, h2, h3, h4, fv⟩ := k
  simp only at e cq
  simp only [next_push] at h1 h2 h3 h4 fv
  subst e
  simp (disch := first|exact dis|fail) only [go_sem, simprocAttr, ↓EU_rg, if_true]
  exact ⟨xh, cb, qb, lb, mb, v, rfl, cq, by omega, by omega, by omega, by omega, fv.mono (by omega)⟩
structure Act22 where
 op : Int
 at' : Int
 by' : UInt8
noncomputable def act22E (x : Act22) : List Value := [.int .i64 x.op, .int .i64 x.at', .int .u8 (x.by'.toNat : Int)]
structure PSt where
 qb : Nat
 lb : Nat
 mb : Nat
 wb : Nat
 v : Value
 bv : Value
 rv : Value
 wv : Value
 base : Int
 cur : Int
 l : List Pnt
 idle : Int
 age : Int
 tage : Int
 at' : Nat
 why : Int
 frc : Nat
 stale : Bool
 qv : Value
 B : List UInt8
noncomputable def ctag (tag to : Int) (a : Nat) : Int := if a = 5 then to else tag
noncomputable def foot (cb tb : Nat) (s : PSt) (j : Nat) : Prop := j = cb ∨ j = tb ∨ j = s.qb ∨ j = s.lb ∨ j = s.mb ∨ j = s.wb ∨ blkOf s.v j ∨ blkOf s.bv j ∨ blkOf s.rv j ∨ blkOf s.wv j
structure KP (n : Nat) (cb tb : Nat) (tag to : Int) (i : Nat) (s : PSt) (h : Heap) : Prop where
 ph : PH h cb tb s.qb s.lb s.mb s.wb s.v s.bv s.rv s.wv (ctag tag to s.at') to s.base s.cur s.l s.idle s.age (s.at' : Int) s.why s.tage s.qv (fun j => s.frc.testBit j) s.B s.B
 lo : ∀ j, foot cb tb s j → n ≤ j
 lg : LG 1125899906842624 s.base s.cur s.l
 bs : 0 ≤ s.base ∧ s.base ≤ i * 1125899906842624
 ag : (0 ≤ s.tage ∧ s.tage ≤ s.age ∧ s.age ≤ i) ∧ 0 ≤ s.idle ∧ s.idle ≤ i
 a6 : s.at' ≤ 6
 fr : s.frc < 64
 sta : 1 ≤ s.at' → s.at' < 5 → s.stale = !decide (s.age = s.tage)
 bl : s.B.length < 500000
 wy : s.at' < 5 → s.why = 0
 q3 : s.at' = 3 ∨ s.at' = 4 → s.stale = false → ∃ qb2 lb2 v2, s.qv = ptr qb2 0 ∧ PQ h qb2 lb2 v2 to 0 (readR s.B).2.2.1 ((readR s.B).2.2.2.1.map (ptI 0)) ∧ (readR s.B).2.2.2.2 = 0 ∧ n ≤ qb2 ∧ n ≤ lb2 ∧ Fresh n v2
 q4 : s.at' = 4 → s.stale = false → (readR s.B).2.2.1 = s.cur ∧ (readR s.B).2.2.2.1 = s.l.map (itP s.base)
structure KT (cb tb : Nat) (tag to : Int) (sl : Value) (s : PSt) (i : Nat) (tm : Fr) : Prop where
 g0 : Fr.get tm 0 = .int .i64 tag
 g2 : Fr.get tm 2 = .int .i64 to
 g3 : Fr.get tm 3 = sl
 g9 : Fr.get tm 9 = ptr cb 0
 g10 : Fr.get tm 10 = ptr s.wb 0
 g12 : Fr.get tm 12 = ptr tb 0
 g14 : Fr.get tm 14 = .int .i64 s.at'
 g15 : Fr.get tm 15 = .int .i64 s.why
 g16 : Fr.get tm 16 = .int .i64 (s.frc : Nat)
 g17 : Fr.get tm 17 = .bool s.stale
 g18 : Fr.get tm 18 = s.rv
 g19 : Fr.get tm 19 = .int .i64 i
theorem KP.up {n cb tb : Nat} {tag to : Int} {i : Nat} {s : PSt} {h : Heap} (k : KP n cb tb tag to i s h) : KP n cb tb tag to (i + 1) s h := by
 obtain ⟨a1, a2, a3, a4, a5, a6, a7, a8, a9, a10, a11, a12⟩ := k
 exact ⟨a1, a2, a3, by omega, by omega, a6, a7, a8, a9, a10, a11, a12⟩
theorem KP.ext {n cb tb : Nat} {tag to : Int} {i : Nat} {s : PSt} {h h' : Heap} (k : KP n cb tb tag to i s h) (x : Ext h h') : KP n cb tb tag to i s h' := by
 obtain ⟨a1, a2, a3, a4, a5, a6, a7, a8, a9, a10, a11, a12⟩ := k
 refine ⟨a1.ext x, a2, a3, a4, a5, a6, a7, a8, a9, a10, fun e1 e2 => ?_, a12⟩
 obtain ⟨qb2, lb2, v2, b1, b2, b3, b4⟩ := a11 e1 e2
 exact ⟨qb2, lb2, v2, b1, b2.ext x, b3, b4⟩
theorem KP.calm {n cb tb : Nat} {tag to : Int} {i : Nat} {s : PSt} {h : Heap} (k : KP n cb tb tag to i s h) (hi : i ≤ 1000) : Calm s.l := k.lg.calm (Int.le_refl _) (by have := k.bs; omega)
theorem KP.good {n cb tb : Nat} {tag to : Int} {i : Nat} {s : PSt} {h : Heap} (k : KP n cb tb tag to i s h) : goodF s.cur (s.l.map (itP s.base)) = true := (goodF_iff _ _ _).2 k.lg
theorem KP.try_ {n cb tb : Nat} {tag to : Int} {i : Nat} {s : PSt} {h h' : Heap} (k : KP n cb tb tag to i s h) (m : Mod (fun j => j = tb) h h') (why' : Int) (a' : Nat) (tage' : Int) (frc' : Nat) (st' : Bool)
  (ht : h'.get tb = .cells (tryL cb to 0 (a' : Int) why' tage' s.bv s.qv (fun j => frc'.testBit j)) 0) (h5 : ctag tag to a' = ctag tag to s.at') (ha6 : a' ≤ 6) (hf : frc' < 64) (hag : 0 ≤ tage' ∧ tage' ≤ s.age) (hsta : 1 ≤ a' → a' < 5 → st' = !decide (s.age = tage')) (hwy : a' < 5 → why' = 0)
  (h3 : a' = 3 ∨ a' = 4 → a' = s.at' ∧ st' = s.stale) : KP n cb tb tag to i { s with at' := a', why := why', tage := tage', frc := frc', stale := st' } h' := by
 obtain ⟨a1, a2, a3, a4, a5, a6, a7, a8, a9, a10, a11, a12⟩ := k
 have p := a1.tryM m ht
 rw [← h5] at p
 refine ⟨p, a2, a3, a4, ⟨⟨hag.1, hag.2, a5.1.2.2⟩, a5.2⟩, ha6, hf, hsta, a9, hwy, fun e1 e2 => ?_, fun e1 e2 => ?_⟩
 ·obtain ⟨e3, e4⟩ := h3 e1
  simp only at e1 e2
  obtain ⟨qb2, lb2, v2, b1, b2, b3, b4⟩ := a11 (by rw [← e3]; exact e1) (by rw [← e4]; exact e2)
  exact ⟨qb2, lb2, v2, b1, b2.modT a1.tg m, b3, b4⟩
 ·obtain ⟨e3, e4⟩ := h3 (.inr e1)
  simp only at e1 e2
  exact a12 (by rw [← e3]; exact e1) (by rw [← e4]; exact e2)
end Go.Proofs.YtddgcakiceodgaaGreat.EV
