/- Contracts: weight.Step, owed.day, owed.NewLine, owed.SeedLine, (*owed.Line).Form. No condition. -/
import Derived.Test.YtddgcakiceodgaaGreatOwed2
import Derived.Test.YtddgcakiceodgaaGreatQuo
namespace Go.Proofs.YtddgcakiceodgaaGreat.EV
open Go Go.Proofs
set_option linter.unusedVariables false
set_option linter.unusedSimpArgs false
set_option maxRecDepth 100000
set_option pp.deepTerms false
set_option pp.deepTerms.threshold 20

theorem wgood_facts {w : Int} (h : wgood w = true) : 1 ≤ w ∧ w ≤ 20 := by
  unfold wgood at h
  simpa using h
noncomputable def wstep (w : Int) : Int := if wgood w then (232792560 : Int).tdiv w else 0
theorem wstep_le (w : Int) : 0 ≤ wstep w ∧ wstep w ≤ 232792560 := by
  unfold wstep
  cases h : wgood w with
  | false => rw [if_neg (by decide)]; omega
  | true =>
    have := wgood_facts h
    rw [if_pos rfl]
    exact ⟨Int.tdiv_nonneg (by decide) (by omega), Int.tdiv_le_self _ (by decide)⟩
theorem wstep_ev (a : Int) (h : Heap) : EF Tryz.prog O0 98 [.int .i64 a] h = some (.int .i64 (wstep a), h) := by
  have : WPo (EF Tryz.prog O0 98 [.int .i64 a] h) fun q => q = (.int .i64 (wstep a), h) := by
    unfold wstep
    rw [EF_body (O := O0) (by kernel_rfl) Tryz.func98 rfl (rs := [.tmp 2]) rfl (bad := []) (by kernel_rfl) _ _ (m := 8) rfl]
    cases hg : wgood a with
    | false =>
      rw [if_neg (by decide)]
      simp (maxSteps := 1000000) (disch := first | decide | omega | (simp only [go_sem]; first | done | omega)) only [go_sem, Int.reduceToNat, Nat.reduceMul, Nat.reduceAdd, Nat.reduceSub, ↓EU_region, ↓EU_draw, wGood_ev, hg]
    | true =>
      have hf := wgood_facts hg
      have hq := fun x y => bin_quo Tryz.prog 3 x y .i64 232792560 a (by omega)
      have hr : 0 ≤ (232792560 : Int).tdiv a ∧ (232792560 : Int).tdiv a ≤ 232792560 := by
        refine ⟨Int.tdiv_nonneg (by decide) (by omega), ?_⟩
        exact Int.tdiv_le_self _ (by decide)
      have hw : wrapF .i64 ((232792560 : Int).tdiv a) = (232792560 : Int).tdiv a := wrap64 (by omega)
      rw [if_pos rfl]
      simp (maxSteps := 1000000) (disch := first | decide | omega | (simp only [go_sem]; first | done | omega)) only [go_sem, Int.reduceToNat, Nat.reduceMul, Nat.reduceAdd, Nat.reduceSub, ↓EU_region, ↓EU_draw, wGood_ev, hg, hq, hw]
  obtain ⟨q, e, rfl⟩ := this
  exact e

/-- a point of a line -/
structure Pnt where
  id : Int
  w : Int
  v : Int
  day : Int
deriving DecidableEq
noncomputable def pntE (x : Pnt) : List Value := [.int .i64 x.id, .int .i64 x.w, .int .i64 x.v, .int .i64 x.day]
@[go_sem] theorem pntE_len (x : Pnt) : (pntE x).length = 4 := (rfl)
@[go_sem] theorem pntE_scal (x : Pnt) : (pntE x).all scal = true := (rfl)
@[go_sem] theorem pntE_0 (x : Pnt) : (pntE x)[0]? = some (.int .i64 x.id) := (rfl)
@[go_sem] theorem pntE_1 (x : Pnt) : (pntE x)[1]? = some (.int .i64 x.w) := (rfl)
@[go_sem] theorem pntE_2 (x : Pnt) : (pntE x)[2]? = some (.int .i64 x.v) := (rfl)
@[go_sem] theorem pntE_3 (x : Pnt) : (pntE x)[3]? = some (.int .i64 x.day) := (rfl)
/-- with its day -/
noncomputable def dayP (p : Pnt) : Pnt := ⟨p.id, p.w, p.v, p.v + 4 * wstep p.w⟩
theorem day_ev (x : Pnt) (h : Heap) (hv : -4611686018427387904 ≤ x.v ∧ x.v ≤ 4611686018427387904) : Pu (EF Tryz.prog O0 88 [.agg ⟨pntE x⟩] h) h (.agg ⟨pntE (dayP x)⟩) := by
  have hw := wstep_le x.w
  have w1 : wrapF .i64 (4 * wstep x.w) = 4 * wstep x.w := wrap64 (by omega)
  have w2 : wrapF .i64 (x.v + 4 * wstep x.w) = x.v + 4 * wstep x.w := wrap64 (by omega)
  unfold Pu pntE
  rw [EF_body (O := O0) (by kernel_rfl) Tryz.func88 rfl (rs := [.cell 2 155]) rfl (bad := [1]) (by kernel_rfl) _ _ (m := 12) rfl]
  simp (maxSteps := 1000000) (disch := first | decide | omega | (simp only [go_sem]; first | done | omega)) only [go_sem, Int.reduceToNat, Nat.reduceMul, Nat.reduceAdd, Nat.reduceSub]
  (first | rw [EU_region] | rw [EU_draw _ _ rfl]); simp (maxSteps := 1000000) (disch := first | decide | omega | (simp only [go_sem]; first | done | omega)) only [go_sem, Int.reduceToNat, Nat.reduceMul, Nat.reduceAdd, Nat.reduceSub]
  rw [EU_bad _ _ rfl, EC_tab (tab := [(false, none), (false, (some (0, 1))), (false, none), (false, none), (true, none), (false, none), (false, none), (false, none), (true, none)]) (by kernel_rfl)]
  simp (maxSteps := 1000000) (disch := first | decide | omega | (simp only [go_sem]; first | done | omega)) only [go_sem, Int.reduceToNat, Nat.reduceMul, Nat.reduceAdd, Nat.reduceSub, ↓EU_region, ↓EU_draw, wstep_ev, w1, w2]
  exact ⟨rfl, by repeat (first | exact Ext.refl _ | assumption | refine Ext.push ?_ _ | refine Ext.set ?_ _ _ (by first | omega | (simp only [next_push, next_set]; omega)))⟩
end Go.Proofs.YtddgcakiceodgaaGreat.EV
