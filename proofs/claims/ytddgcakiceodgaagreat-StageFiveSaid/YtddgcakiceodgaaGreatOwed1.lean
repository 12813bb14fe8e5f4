/- Contracts: owed.may, owed.find. No condition. -/
import Derived.Test.YtddgcakiceodgaaGreatO0
namespace Go.Proofs.YtddgcakiceodgaaGreat.EV
open Go Go.Proofs
set_option linter.unusedVariables false
set_option linter.unusedSimpArgs false
set_option maxRecDepth 100000
set_option pp.deepTerms false
set_option pp.deepTerms.threshold 20

structure Item where
  id : Int
  w : Int
  lag : Int
deriving DecidableEq
noncomputable def itemE (x : Item) : List Value := [.int .i64 x.id, .int .i64 x.w, .int .i64 x.lag]
@[go_sem] theorem itemE_len (x : Item) : (itemE x).length = 3 := (rfl)
@[go_sem] theorem itemE_scal (x : Item) : (itemE x).all scal = true := (rfl)
@[go_sem] theorem itemE_0 (x : Item) : (itemE x)[0]? = some (.int .i64 x.id) := (rfl)
@[go_sem] theorem itemE_1 (x : Item) : (itemE x)[1]? = some (.int .i64 x.w) := (rfl)
@[go_sem] theorem itemE_2 (x : Item) : (itemE x)[2]? = some (.int .i64 x.lag) := (rfl)
noncomputable def wgood (w : Int) : Bool := decide (1 ≤ w) && decide (w ≤ 20)
noncomputable def imay (x : Item) : Bool := decide (0 ≤ x.id) && (decide (x.id ≤ 1073741824) && (wgood x.w && (decide (-1125899906842624 ≤ x.lag) && decide (x.lag ≤ 1125899906842624))))

theorem wGood_ev (a : Int) (h : Heap) : EF Tryz.prog O0 95 [.int .i64 a] h = some (.bool (wgood a), h) := by
  have : WPo (EF Tryz.prog O0 95 [.int .i64 a] h) fun q => q = (.bool (wgood a), h) := by
    rw [EF_body (O := O0) (by kernel_rfl) Tryz.func95 rfl (rs := [.tmp 2]) rfl (bad := []) (by kernel_rfl) _ _ (m := 9) rfl]
    simp (maxSteps := 1000000) (disch := first | decide | omega | (simp only [go_sem]; first | done | omega)) only [go_sem, Int.reduceToNat, Nat.reduceMul, Nat.reduceAdd, Nat.reduceSub, ↓EU_region, ↓EU_draw]
    repeat' (((repeat refine WPo_ob ?_); (first | refine WPo_cond (fun hb => ?_) (fun hb => ?_) | refine WPo_gard (fun hb => ?_) (fun hb => ?_) | refine WPo_gardT (fun hb => ?_) (fun hb => ?_)) <;> (try simp only [Bool.not_eq_true', Bool.not_eq_false'] at hb)) <;> (simp (maxSteps := 1000000) (disch := first | decide | omega | (simp only [go_sem]; first | done | omega)) only [go_sem, Int.reduceToNat, Nat.reduceMul, Nat.reduceAdd, Nat.reduceSub, ↓EU_region, ↓EU_draw, hb]))
    all_goals simp [wgood, *]
  obtain ⟨q, e, rfl⟩ := this
  exact e
theorem may_ev (x : Item) (h : Heap) : Pu (EF Tryz.prog O0 97 [.agg ⟨itemE x⟩] h) h (.bool (imay x)) := by
  unfold Pu itemE
  rw [EF_body (O := O0) (by kernel_rfl) Tryz.func97 rfl (rs := [.tmp 2]) rfl (bad := []) (by kernel_rfl) _ _ (m := 26) rfl]
  simp (maxSteps := 1000000) (disch := first | decide | omega | (simp only [go_sem]; first | done | omega)) only [go_sem, Int.reduceToNat, Nat.reduceMul, Nat.reduceAdd, Nat.reduceSub, ↓EU_region, ↓EU_draw, wGood_ev]
  repeat' (((repeat refine WPo_ob ?_); (first | refine WPo_cond (fun hb => ?_) (fun hb => ?_) | refine WPo_gard (fun hb => ?_) (fun hb => ?_) | refine WPo_gardT (fun hb => ?_) (fun hb => ?_)) <;> (try simp only [Bool.not_eq_true', Bool.not_eq_false'] at hb)) <;> (simp (maxSteps := 1000000) (disch := first | decide | omega | (simp only [go_sem]; first | done | omega)) only [go_sem, Int.reduceToNat, Nat.reduceMul, Nat.reduceAdd, Nat.reduceSub, ↓EU_region, ↓EU_draw, hb, wGood_ev]))
  all_goals (refine ⟨?_, by repeat (first | exact Ext.refl _ | assumption | refine Ext.push ?_ _ | refine Ext.set ?_ _ _ (by first | omega | (simp only [next_push, next_set]; omega)))⟩; simp [imay, *])
theorem find1_ev (x : Item) (id : Int) (b : Nat) (h : Heap) (hb : b < h.next) (hx : rdc1 (h.get b) 0 = some (.int .i64 id)) : Pu (EF Tryz.prog O0 102 [.agg ⟨itemE x⟩, ptr b 0] h) h (.bool (decide (x.id = id))) := by
  unfold Pu itemE
  rw [EF_body (O := O0) (by kernel_rfl) Tryz.func102 rfl (rs := [.tmp 3]) rfl (bad := []) (by kernel_rfl) _ _ (m := 8) rfl]
  simp (maxSteps := 1000000) (disch := first | decide | omega | (simp only [go_sem]; first | done | omega)) only [go_sem, Int.reduceToNat, Nat.reduceMul, Nat.reduceAdd, Nat.reduceSub, ↓EU_region, ↓EU_draw, hx]
  exact ⟨trivial, by repeat (first | exact Ext.refl _ | assumption | refine Ext.push ?_ _ | refine Ext.set ?_ _ _ (by first | omega | (simp only [next_push, next_set]; omega)))⟩
noncomputable def idx {α : Type} (p : α → Bool) (l : List α) : Int := match l.findIdx? p with
  | some i => i
  | none => -1
theorem idx_hit {α : Type} {p : α → Bool} {l : List α} {i : Nat} {x : α} (hx : l[i]? = some x) (hp : p x = true) (h : ∀ j y, j < i → l[j]? = some y → p y = false) : idx p l = i := by
  unfold idx
  have : l.findIdx? p = some i := by
    rw [List.findIdx?_eq_some_iff_getElem]
    obtain ⟨h1, h2⟩ := List.getElem?_eq_some_iff.1 hx
    refine ⟨h1, by rw [h2]; exact hp, fun j hj => ?_⟩
    simp [h j _ hj (List.getElem?_eq_getElem (by omega))]
  rw [this]
theorem idx_miss {α : Type} {p : α → Bool} {l : List α} (h : ∀ j y, j < l.length → l[j]? = some y → p y = false) : idx p l = -1 := by
  unfold idx
  have : l.findIdx? p = none := by
    rw [List.findIdx?_eq_none_iff]
    intro x hx
    obtain ⟨i, hi⟩ := List.mem_iff_getElem?.1 hx
    exact h i x (List.getElem?_eq_some_iff.1 hi).1 hi
  rw [this]
theorem indexFunc_ev (l : List Item) (s : Value) (p : Item → Bool) (g : FuncId) (y : List Value) (h : Heap) (hs : SL itemE 3 h s l) (hl : l.length < 900000)
    (hp : ∀ x ∈ l, ∀ h', Ext h h' → Pu (EF Tryz.prog O0 g (.agg ⟨itemE x⟩ :: y) h') h' (.bool (p x))) :
    Pu (EF Tryz.prog O0 101 [s, .func (.func g) ⟨[]⟩ ⟨y⟩] h) h (.int .i64 (idx p l)) := by
  unfold Pu
  rw [EF_body (O := O0) (by kernel_rfl) Tryz.func101 rfl (rs := [.tmp 4]) rfl (bad := []) (by kernel_rfl) _ _ (m := 19) rfl]
  obtain ⟨a, c, hv⟩ := hs.val
  subst hv
  simp (maxSteps := 1000000) (disch := first | decide | omega | (simp only [go_sem]; first | done | omega)) only [go_sem, Int.reduceToNat, Nat.reduceMul, Nat.reduceAdd, Nat.reduceSub, ↓EU_region, ↓EU_draw]
  repeat refine WPo_ob ?_
  refine (LP_rule (fun m st => ∃ i tm h1, st = ⟨tm, h1, []⟩ ∧ m = l.length - i ∧ i ≤ l.length ∧ Fr.get tm 0 = .slice a l.length c ∧ Fr.get tm 1 = .func (.func g) ⟨[]⟩ ⟨y⟩ ∧ Fr.get tm 7 = .int .i64 l.length ∧ Fr.get tm 8 = .int .i64 i ∧ Ext h h1 ∧ ∀ j y, j < i → l[j]? = some y → p y = false)
    (fun q => ∃ tm h1, q.2 = ⟨tm, h1, []⟩ ∧ Ext h h1 ∧ ((q.1 = .exit 0 ∧ idx p l = -1) ∨ (q.1 = .ret ∧ Fr.get tm 4 = .int .i64 (idx p l)))) ?_ l.length _ _ ?_ ?_).mono ?_
  · rintro m _ ⟨i, tm, h1, rfl, rfl, hi, g0, g1, g7, g8, x1, hn⟩
    simp (maxSteps := 1000000) (disch := first | decide | omega | (simp only [go_sem]; first | done | omega)) only [go_sem, Int.reduceToNat, Nat.reduceMul, Nat.reduceAdd, Nat.reduceSub, ↓EU_region, ↓EU_draw, g0, g1, g7, g8]
    ((repeat refine WPo_ob ?_); (first | refine WPo_cond (fun hb => ?_) (fun hb => ?_) | refine WPo_gard (fun hb => ?_) (fun hb => ?_) | refine WPo_gardT (fun hb => ?_) (fun hb => ?_)) <;> (try simp only [Bool.not_eq_true', Bool.not_eq_false'] at hb))
    · simp only [decide_eq_true_eq] at hb
      have hi' : i < l.length := by omega
      obtain ⟨x, hx⟩ : ∃ x, l[i]? = some x := ⟨_, List.getElem?_eq_getElem hi'⟩
      obtain ⟨b, o, c', e, hb', hr, _⟩ := (hs.ext x1).at hx rfl
      cases e
      simp (maxSteps := 1000000) (disch := first | decide | omega | (simp only [go_sem]; first | done | omega)) only [go_sem, Int.reduceToNat, Nat.reduceMul, Nat.reduceAdd, Nat.reduceSub, ↓EU_region, ↓EU_draw, g0, g1, g7, g8, hr]
      repeat refine WPo_ob ?_
      refine (hp x (List.mem_of_getElem? hx) h1 x1).mono ?_
      rintro ⟨v, h2⟩ ⟨rfl, x2⟩
      simp (maxSteps := 1000000) (disch := first | decide | omega | (simp only [go_sem]; first | done | omega)) only [go_sem, Int.reduceToNat, Nat.reduceMul, Nat.reduceAdd, Nat.reduceSub, ↓EU_region, ↓EU_draw, g0, g1, g7, g8, hr]
      ((repeat refine WPo_ob ?_); (first | refine WPo_cond (fun hq => ?_) (fun hq => ?_) | refine WPo_gard (fun hq => ?_) (fun hq => ?_) | refine WPo_gardT (fun hq => ?_) (fun hq => ?_)) <;> (try simp only [Bool.not_eq_true', Bool.not_eq_false'] at hq))
      · simp (maxSteps := 1000000) (disch := first | decide | omega | (simp only [go_sem]; first | done | omega)) only [go_sem, Int.reduceToNat, Nat.reduceMul, Nat.reduceAdd, Nat.reduceSub, ↓EU_region, ↓EU_draw, g0, g1, g7, g8, hr]
        exact ⟨_, _, rfl, x1.trans x2, .inr ⟨trivial, by simp (maxSteps := 1000000) (disch := first | decide | omega | (simp only [go_sem]; first | done | omega)) only [go_sem, Int.reduceToNat, Nat.reduceMul, Nat.reduceAdd, Nat.reduceSub, ↓EU_region, ↓EU_draw]; rw [idx_hit hx hq hn]⟩⟩
      · simp (maxSteps := 1000000) (disch := first | decide | omega | (simp only [go_sem]; first | done | omega)) only [go_sem, Int.reduceToNat, Nat.reduceMul, Nat.reduceAdd, Nat.reduceSub, ↓EU_region, ↓EU_draw, g0, g1, g7, g8, hr]
        refine ⟨_, by omega, i + 1, _, _, rfl, rfl, by omega, by simp (maxSteps := 1000000) (disch := first | decide | omega | (simp only [go_sem]; first | done | omega)) only [go_sem, Int.reduceToNat, Nat.reduceMul, Nat.reduceAdd, Nat.reduceSub, ↓EU_region, ↓EU_draw, g0], by simp (maxSteps := 1000000) (disch := first | decide | omega | (simp only [go_sem]; first | done | omega)) only [go_sem, Int.reduceToNat, Nat.reduceMul, Nat.reduceAdd, Nat.reduceSub, ↓EU_region, ↓EU_draw, g1], by simp (maxSteps := 1000000) (disch := first | decide | omega | (simp only [go_sem]; first | done | omega)) only [go_sem, Int.reduceToNat, Nat.reduceMul, Nat.reduceAdd, Nat.reduceSub, ↓EU_region, ↓EU_draw, g7], by simp (maxSteps := 1000000) (disch := first | decide | omega | (simp only [go_sem]; first | done | omega)) only [go_sem, Int.reduceToNat, Nat.reduceMul, Nat.reduceAdd, Nat.reduceSub, ↓EU_region, ↓EU_draw], x1.trans x2, fun j y hj hy => ?_⟩
        rcases Nat.lt_succ_iff_lt_or_eq.1 hj with hj | rfl
        · exact hn j y hj hy
        · rw [hx] at hy; cases hy; exact hq
    · simp only [decide_eq_false_iff_not] at hb
      simp (maxSteps := 1000000) (disch := first | decide | omega | (simp only [go_sem]; first | done | omega)) only [go_sem, Int.reduceToNat, Nat.reduceMul, Nat.reduceAdd, Nat.reduceSub, ↓EU_region, ↓EU_draw]
      exact ⟨_, _, rfl, x1, .inl ⟨trivial, idx_miss fun j y hj => hn j y (by omega)⟩⟩
  · exact ⟨0, _, _, rfl, rfl, by omega, by simp (maxSteps := 1000000) (disch := first | decide | omega | (simp only [go_sem]; first | done | omega)) only [go_sem, Int.reduceToNat, Nat.reduceMul, Nat.reduceAdd, Nat.reduceSub, ↓EU_region, ↓EU_draw], by simp (maxSteps := 1000000) (disch := first | decide | omega | (simp only [go_sem]; first | done | omega)) only [go_sem, Int.reduceToNat, Nat.reduceMul, Nat.reduceAdd, Nat.reduceSub, ↓EU_region, ↓EU_draw], by simp (maxSteps := 1000000) (disch := first | decide | omega | (simp only [go_sem]; first | done | omega)) only [go_sem, Int.reduceToNat, Nat.reduceMul, Nat.reduceAdd, Nat.reduceSub, ↓EU_region, ↓EU_draw], by simp (maxSteps := 1000000) (disch := first | decide | omega | (simp only [go_sem]; first | done | omega)) only [go_sem, Int.reduceToNat, Nat.reduceMul, Nat.reduceAdd, Nat.reduceSub, ↓EU_region, ↓EU_draw]; rfl, Ext.refl _, fun j y hj => absurd hj (Nat.not_lt_zero _)⟩
  · omega
  · rintro ⟨q, _⟩ ⟨tm, h1, rfl, x1, ⟨rfl, e⟩ | ⟨rfl, e⟩⟩
    · simp (maxSteps := 1000000) (disch := first | decide | omega | (simp only [go_sem]; first | done | omega)) only [go_sem, Int.reduceToNat, Nat.reduceMul, Nat.reduceAdd, Nat.reduceSub, ↓EU_region, ↓EU_draw]
      rw [e]
      exact ⟨rfl, x1⟩
    · simp (maxSteps := 1000000) (disch := first | decide | omega | (simp only [go_sem]; first | done | omega)) only [go_sem, Int.reduceToNat, Nat.reduceMul, Nat.reduceAdd, Nat.reduceSub, ↓EU_region, ↓EU_draw, e]
      exact ⟨trivial, x1⟩
/-- a form -/
noncomputable def formV (cur : Int) (s : Value) : Value := .agg ⟨[.int .i64 cur, s]⟩
noncomputable def byId (id : Int) (x : Item) : Bool := decide (x.id = id)
theorem find_ev (cur : Int) (l : List Item) (s : Value) (id : Int) (h : Heap) (hs : SL itemE 3 h s l) (hl : l.length < 900000) :
    Pu (EF Tryz.prog O0 96 [formV cur s, .int .i64 id] h) h (.int .i64 (idx (byId id) l)) := by
  unfold Pu formV
  rw [EF_body (O := O0) (by kernel_rfl) Tryz.func96 rfl (rs := [.tmp 4]) rfl (bad := []) (by kernel_rfl) _ _ (m := 9) rfl]
  obtain ⟨a, c, hv⟩ := hs.val
  subst hv
  simp (maxSteps := 1000000) (disch := first | decide | omega | (simp only [go_sem]; first | done | omega)) only [go_sem, Int.reduceToNat, Nat.reduceMul, Nat.reduceAdd, Nat.reduceSub, ↓EU_region, ↓EU_draw]
  repeat refine WPo_ob ?_
  refine (indexFunc_ev l _ (byId id) _ _ _ (hs.ext (((Ext.refl _).push _).push _)) hl fun x _ h' e => find1_ev x id _ h' ?_ ?_).mono ?_
  · have := e.le; simp only [next_push] at this; omega
  · simp (maxSteps := 1000000) (disch := first | decide | omega | (simp only [go_sem]; first | done | omega)) only [go_sem, Int.reduceToNat, Nat.reduceMul, Nat.reduceAdd, Nat.reduceSub, ↓EU_region, ↓EU_draw, e.old]
  · rintro ⟨v, h2⟩ ⟨rfl, x2⟩
    simp (maxSteps := 1000000) (disch := first | decide | omega | (simp only [go_sem]; first | done | omega)) only [go_sem, Int.reduceToNat, Nat.reduceMul, Nat.reduceAdd, Nat.reduceSub, ↓EU_region, ↓EU_draw]
    exact ⟨trivial, (((Ext.refl _).push _).push _).trans x2⟩
end Go.Proofs.YtddgcakiceodgaaGreat.EV
