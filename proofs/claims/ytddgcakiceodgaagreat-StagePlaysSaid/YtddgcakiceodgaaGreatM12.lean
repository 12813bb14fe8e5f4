/- Contracts: (*owed.Line).find, Least, Now, Take, grow. No condition. Contracts: (*owed.Line).Now, Take, grow, Charge. No condition. Wide numbers: bits.Mul64, bits.Len64, bits.LeadingZeros64, whole.size. No condition. Contracts: Pick of the three policies. No condition. Contract: (*due.Q).Pick. No condition. -/
import Derived.Test.YtddgcakiceodgaaGreatM11
import Derived.Test.YtddgcakiceodgaaGreatM10
namespace Go.Proofs.YtddgcakiceodgaaGreat.EV
open Go Go.Proofs
set_option linter.unusedVariables false
set_option linter.unusedSimpArgs false
set_option maxRecDepth 100000
noncomputable def lnCmp (a b : Int) : Int := if a < b then -1 else if b < a then 1 else 0
theorem lnCmp_ev (a b : Int) (h : Heap) : EF Tryz.prog O0 136 [.int .i64 a, .int .i64 b] h = some (.int .i64 (lnCmp a b), h) := by
 have : WPo (EF Tryz.prog O0 136 [.int .i64 a, .int .i64 b] h) fun q => q = (.int .i64 (lnCmp a b), h) := by
  unfold lnCmp
  have dn : ∀ x : Int, decide (x = x) = true := fun x => decide_eq_true rfl
  have hn : ∀ (x : Int) (h : Heap), EF Tryz.prog O0 139 [.int .i64 x] h = some (.bool false, h) := fun x h => by
   have : WPo (EF Tryz.prog O0 139 [.int .i64 x] h) fun q => q = (.bool false, h) := by
    rw [EF_body (O := O0) (by kernel_rfl) Tryz.func139 rfl (rs := [.tmp 2]) rfl (bad := []) (by kernel_rfl) _ _ (m := 6) rfl]
    simp (disch := first|exact dis|fail) only [go_sem, simprocAttr, ↓EU_rg, dn]
   obtain ⟨q, e, rfl⟩ := this
   exact e
  rw [EF_body (O := O0) (by kernel_rfl) Tryz.func136 rfl (rs := [.tmp 4]) rfl (bad := []) (by kernel_rfl) _ _ (m := 20) rfl]
  by_cases q1 : a < b
  ·have d1 : decide (a < b) = true := decide_eq_true q1
   rw [if_pos q1]
   simp (disch := first|exact dis|fail) only [go_sem, simprocAttr, ↓EU_rg, hn, d1]
  ·have d1 : decide (a < b) = false := decide_eq_false q1
   rw [if_neg q1]
   by_cases q2 : b < a
   ·have d2 : decide (b < a) = true := decide_eq_true q2
    rw [if_pos q2]
    simp (disch := first|exact dis|fail) only [go_sem, simprocAttr, ↓EU_rg, hn, d1, d2]
   ·have d2 : decide (b < a) = false := decide_eq_false q2
    rw [if_neg q2]
    simp (disch := first|exact dis|fail) only [go_sem, simprocAttr, ↓EU_rg, hn, d1, d2]
 obtain ⟨q, e, rfl⟩ := this
 exact e
theorem lnCmp_neg (a b : Int) : lnCmp a b < 0 ↔ a < b := by
 unfold lnCmp
 split
 ·omega
 ·split <;> omega
noncomputable def byPid (id : Int) (x : Pnt) : Bool := decide (x.id = id)
theorem lnFind1_ev (x : Pnt) (id : Int) (b : Nat) (h : Heap) (hb : b < h.next) (hx : rdc1 (h.get b) 0 = some (.int .i64 id)) : Pu (EF Tryz.prog O0 138 [.agg ⟨pntE x⟩, ptr b 0] h) h (.bool (byPid id x)) := by
 unfold Pu pntE byPid
 rw [EF_body (O := O0) (by kernel_rfl) Tryz.func138 rfl (rs := [.tmp 3]) rfl (bad := []) (by kernel_rfl) _ _ (m := 8) rfl]
 simp (disch := first|exact dis|fail) only [go_sem, simprocAttr, ↓EU_rg, hx]
 exact ⟨trivial, by repeat (first | exact Ext.refl _ | assumption | refine Ext.push ?_ _ | refine Ext.set ?_ _ _ (by first | omega | (simp only [next_push, next_set]; omega)))⟩
theorem lnIndex_ev (l : List Pnt) (s : Value) (p : Pnt → Bool) (g : FuncId) (y : List Value) (h : Heap) (hs : SL pntE 4 h s l) (hl : l.length < 900000)
  (hp : ∀ x ∈ l, ∀ h', Ext h h' → Pu (EF Tryz.prog O0 g (.agg ⟨pntE x⟩ :: y) h') h' (.bool (p x))) :
  Pu (EF Tryz.prog O0 137 [s, .func (.func g) ⟨[]⟩ ⟨y⟩] h) h (.int .i64 (idx p l)) := by
 unfold Pu
 rw [EF_body (O := O0) (by kernel_rfl) Tryz.func137 rfl (rs := [.tmp 4]) rfl (bad := []) (by kernel_rfl) _ _ (m := 19) rfl]
 obtain ⟨a, c, hv⟩ := hs.val
 subst hv
 simp (disch := first|exact dis|fail) only [go_sem, simprocAttr, ↓EU_rg]
 repeat refine WPo_ob ?_
 refine (LP_rule (fun m st => ∃ i tm h1, st = ⟨tm, h1, []⟩ ∧ m = l.length - i ∧ i ≤ l.length ∧ Fr.get tm 0 = .slice a l.length c ∧ Fr.get tm 1 = .func (.func g) ⟨[]⟩ ⟨y⟩ ∧ Fr.get tm 7 = .int .i64 l.length ∧ Fr.get tm 8 = .int .i64 i ∧ Ext h h1 ∧ ∀ j y, j < i → l[j]? = some y → p y = false)
  (fun q => ∃ tm h1, q.2 = ⟨tm, h1, []⟩ ∧ Ext h h1 ∧ ((q.1 = .exit 0 ∧ idx p l = -1) ∨ (q.1 = .ret ∧ Fr.get tm 4 = .int .i64 (idx p l)))) ?_ l.length _ _ ?_ ?_).mono ?_
 ·rintro m _ ⟨i, tm, h1, rfl, rfl, hi, g0, g1, g7, g8, x1, hn⟩
  simp (disch := first|exact dis|fail) only [go_sem, simprocAttr, ↓EU_rg, g0, g1, g7, g8]
  ((repeat refine WPo_ob ?_); (first | refine WPo_cond (fun hb => ?_) (fun hb => ?_) | refine WPo_gard (fun hb => ?_) (fun hb => ?_) | refine WPo_gardT (fun hb => ?_) (fun hb => ?_)) <;> (try simp only [Bool.not_eq_true', Bool.not_eq_false'] at hb))
  ·simp only [decide_eq_true_eq] at hb
   have hi' : i < l.length := by omega
   obtain ⟨x, hx⟩ : ∃ x, l[i]? = some x := ⟨_, List.getElem?_eq_getElem hi'⟩
   obtain ⟨b, o, c', e, hb', hr, _⟩ := (hs.ext x1).at hx rfl
   cases e
   simp (disch := first|exact dis|fail) only [go_sem, simprocAttr, ↓EU_rg, g0, g1, g7, g8, hr]
   repeat refine WPo_ob ?_
   refine (hp x (List.mem_of_getElem? hx) h1 x1).mono ?_
   rintro ⟨v, h2⟩ ⟨rfl, x2⟩
   simp (disch := first|exact dis|fail) only [go_sem, simprocAttr, ↓EU_rg, g0, g1, g7, g8, hr]
   ((repeat refine WPo_ob ?_); (first | refine WPo_cond (fun hq => ?_) (fun hq => ?_) | refine WPo_gard (fun hq => ?_) (fun hq => ?_) | refine WPo_gardT (fun hq => ?_) (fun hq => ?_)) <;> (try simp only [Bool.not_eq_true', Bool.not_eq_false'] at hq))
   ·simp (disch := first|exact dis|fail) only [go_sem, simprocAttr, ↓EU_rg, g0, g1, g7, g8, hr]
    exact ⟨_, _, rfl, x1.trans x2, .inr ⟨trivial, by simp (disch := first|exact dis|fail) only [go_sem, simprocAttr, ↓EU_rg]; rw [idx_hit hx hq hn]⟩⟩
   ·simp (disch := first|exact dis|fail) only [go_sem, simprocAttr, ↓EU_rg, g0, g1, g7, g8, hr]
    refine ⟨_, by omega, i + 1, _, _, rfl, rfl, by omega, by simp (disch := first|exact dis|fail) only [go_sem, simprocAttr, ↓EU_rg, g0], by simp (disch := first|exact dis|fail) only [go_sem, simprocAttr, ↓EU_rg, g1], by simp (disch := first|exact dis|fail) only [go_sem, simprocAttr, ↓EU_rg, g7], by simp (disch := first|exact dis|fail) only [go_sem, simprocAttr, ↓EU_rg], x1.trans x2, fun j y hj hy => ?_⟩
    rcases Nat.lt_succ_iff_lt_or_eq.1 hj with hj | rfl
    ·exact hn j y hj hy
    ·rw [hx] at hy; cases hy; exact hq
  ·simp only [decide_eq_false_iff_not] at hb
   simp (disch := first|exact dis|fail) only [go_sem, simprocAttr, ↓EU_rg]
   exact ⟨_, _, rfl, x1, .inl ⟨trivial, idx_miss fun j y hj => hn j y (by omega)⟩⟩
 ·exact ⟨0, _, _, rfl, rfl, by omega, by simp (disch := first|exact dis|fail) only [go_sem, simprocAttr, ↓EU_rg], by simp (disch := first|exact dis|fail) only [go_sem, simprocAttr, ↓EU_rg], by simp (disch := first|exact dis|fail) only [go_sem, simprocAttr, ↓EU_rg], by simp (disch := first|exact dis|fail) only [go_sem, simprocAttr, ↓EU_rg]; all_goals rfl, Ext.refl _, fun j y hj => absurd hj (Nat.not_lt_zero _)⟩
 ·omega
 ·rintro ⟨q, _⟩ ⟨tm, h1, rfl, x1, ⟨rfl, e⟩ | ⟨rfl, e⟩⟩
  ·simp (disch := first|exact dis|fail) only [go_sem, simprocAttr, ↓EU_rg]
   rw [e]
   exact ⟨rfl, x1⟩
  ·simp (disch := first|exact dis|fail) only [go_sem, simprocAttr, ↓EU_rg, e]
   exact ⟨trivial, x1⟩
section
variable {b : Nat} {v : Value} {base cur : Int} {l : List Pnt} {h : Heap}
theorem lnFind_ev (q : LQ h b v base cur l) (hl : l.length < 900000) (id : Int) : Pu (EF Tryz.prog O0 132 [ptr b 0, .int .i64 id] h) h (.int .i64 (idx (byPid id) l)) := by
 have g := q.gb
 have hb := q.lt
 unfold Pu
 rw [EF_body (O := O0) (by kernel_rfl) Tryz.func132 rfl (rs := [.tmp 4]) rfl (bad := []) (by kernel_rfl) _ _ (m := 11) rfl]
 obtain ⟨a, c, hv⟩ := q.ow.val
 subst hv
 simp (disch := first|exact dis|fail) only [go_sem, simprocAttr, ↓EU_rg, g]
 repeat refine WPo_ob ?_
 refine (lnIndex_ev l _ (byPid id) _ _ _ (q.ow.sl.ext ((Ext.refl _).push _)) hl fun x _ h' e => lnFind1_ev x id _ h' ?_ ?_).mono ?_
 ·have := e.le; simp only [next_push] at this; omega
 ·simp (disch := first|exact dis|fail) only [go_sem, simprocAttr, ↓EU_rg, e.old]
 ·rintro ⟨v, h2⟩ ⟨rfl, x2⟩
  simp (disch := first|exact dis|fail) only [go_sem, simprocAttr, ↓EU_rg]
  exact ⟨trivial, ((Ext.refl _).push _).trans x2⟩
theorem lnLeast1_ev (x y : Pnt) (h : Heap) : Pu (EF Tryz.prog O0 135 [.agg ⟨pntE x⟩, .agg ⟨pntE y⟩] h) h (.int .i64 (lnCmp x.v y.v)) := by
 unfold Pu pntE
 rw [EF_body (O := O0) (by kernel_rfl) Tryz.func135 rfl (rs := [.tmp 4]) rfl (bad := []) (by kernel_rfl) _ _ (m := 10) rfl]
 simp (disch := first|exact dis|fail) only [go_sem, simprocAttr, ↓EU_rg, lnCmp_ev]
 exact ⟨trivial, by repeat (first | exact Ext.refl _ | assumption | refine Ext.push ?_ _ | refine Ext.set ?_ _ _ (by first | omega | (simp only [next_push, next_set]; omega)))⟩
end
noncomputable def minP : Pnt → List Pnt → Pnt
 | m, [] => m
 | m, x :: l => minP (if x.v < m.v then x else m) l
theorem lnMin_ev (x0 : Pnt) (l : List Pnt) (s : Value) (h : Heap) (hs : SL pntE 4 h s (x0 :: l)) (hl : l.length < 900000) :
  WPo (EF Tryz.prog O0 134 [s, .func (.func 135) ⟨[]⟩ ⟨[]⟩] h) fun q => q.1 = .agg ⟨pntE (minP x0 l)⟩ ∧ Ext h q.2 := by
 rw [EF_body (O := O0) (by kernel_rfl) Tryz.func134 rfl (rs := [.cell 4 155]) rfl (bad := []) (by kernel_rfl) _ _ (m := 33) rfl]
 obtain ⟨b, o, c, e, hb, hrd, hr⟩ := hs.at (i := 0) rfl rfl
 subst e
 have d0 : decide (((l.length + 1 : Nat) : Int) < 1) = false := decide_eq_false (by omega)
 rw [Nat.zero_mul, Nat.add_zero] at hrd
 have hLl : (x0 :: l).length = l.length + 1 := rfl
 simp (disch := first|exact dis|fail) only [go_sem, simprocAttr, ↓EU_rg, d0, hrd]
 obtain ⟨L, hL⟩ : ∃ L, L = x0 :: l := ⟨_, rfl⟩
 rw [← hL] at hs hLl
 have hdr : minP x0 l = minP x0 (L.drop 1) := by rw [hL]; rfl
 rw [hdr]
 repeat refine WPo_ob ?_
 refine (LP_rule (fun n st => ∃ (i : Nat) (tm : Fr) (h2 : Heap) (m : Pnt), st = ⟨tm, h2, []⟩ ∧ n = l.length + 1 - i ∧ i ≤ l.length + 1 ∧ Fr.get tm 0 = .slice (some ⟨b, o, none⟩) (l.length + 1) c ∧ Fr.get tm 1 = .func (.func 135) ⟨[]⟩ ⟨[]⟩ ∧ Fr.get tm 4 = ptr h.next 0 ∧ Fr.get tm 5 = ptr (h.next + 1) 0 ∧ Fr.get tm 6 = .int .i64 i ∧ h2.get (h.next + 1) = .cells (pntE m) 0 ∧ h2.get h.next = .cells [.int .i64 0, .int .i64 0, .int .i64 0, .int .i64 0] 0 ∧ h.next + 1 < h2.next ∧ Ext h h2 ∧ minP x0 (L.drop 1) = minP m (L.drop i))
  (fun q => ∃ tm h2, q.2 = ⟨tm, h2, []⟩ ∧ q.1 = .exit 0 ∧ Fr.get tm 4 = ptr h.next 0 ∧ Fr.get tm 5 = ptr (h.next + 1) 0 ∧ h2.get (h.next + 1) = .cells (pntE (minP x0 (L.drop 1))) 0 ∧ h2.get h.next = .cells [.int .i64 0, .int .i64 0, .int .i64 0, .int .i64 0] 0 ∧ Ext h h2) ?_ l.length _ _ ?_ ?_).mono ?_
 ·rintro n _ ⟨i, tm, h2, m, rfl, rfl, hi, g0, g1, g4, g5, g6, hM, hZ, hn, x2, hm⟩
  simp (disch := first|exact dis|fail) only [go_sem, simprocAttr, ↓EU_rg, g0, g6]
  ((repeat refine WPo_ob ?_); (first | refine WPo_cond (fun b1 => ?_) (fun b1 => ?_) | refine WPo_gard (fun b1 => ?_) (fun b1 => ?_) | refine WPo_gardT (fun b1 => ?_) (fun b1 => ?_)) <;> (try simp only [Bool.not_eq_true', Bool.not_eq_false'] at b1))
  ·have b1' := b1
   simp only [decide_eq_true_eq] at b1'
   have hi' : i < L.length := by omega
   obtain ⟨x, hx⟩ : ∃ x, L[i]? = some x := ⟨_, List.getElem?_eq_getElem hi'⟩
   obtain ⟨b', o', c', e, hb', hrx, _⟩ := (hs.ext x2).at hx rfl
   rw [hLl] at e
   cases e
   have hwi : wrapF .i64 ((i : Int) + 1) = ((i + 1 : Nat) : Int) := by rw [wrap64 (by omega)]; omega
   have hm' : minP x0 (L.drop 1) = minP (if x.v < m.v then x else m) (L.drop (i + 1)) := by rw [hm, drop_at hx]; rfl
   simp (disch := first|exact dis|fail) only [go_sem, simprocAttr, ↓EU_rg, g0, g1, g4, g5, g6, hrx, hM]
   repeat refine WPo_ob ?_
   refine (lnLeast1_ev x m h2).bind fun h3 x3 => ?_
   have hM3 := (x3.old _ hn).trans hM
   have hZ3 := (x3.old h.next (by omega)).trans hZ
   have hrx3 : rdc (h3.get b) (o + i * 4) 4 = some (pntE x) := by rw [x3.old _ hb']; exact hrx
   have hn3 := x3.le
   by_cases q : x.v < m.v
   ·have d1 : decide (lnCmp x.v m.v < 0) = true := decide_eq_true ((lnCmp_neg _ _).2 q)
    rw [if_pos q] at hm'
    simp (disch := first|exact dis|fail) only [go_sem, simprocAttr, ↓EU_rg, g0, g1, g4, g5, g6, hrx3, hM3, d1, hwi]
    exact ⟨_, by omega, i + 1, _, _, x, rfl, rfl, by omega, by simp (disch := first|exact dis|fail) only [go_sem, simprocAttr, ↓EU_rg, g0], by simp (disch := first|exact dis|fail) only [go_sem, simprocAttr, ↓EU_rg, g1], by simp (disch := first|exact dis|fail) only [go_sem, simprocAttr, ↓EU_rg, g4], by simp (disch := first|exact dis|fail) only [go_sem, simprocAttr, ↓EU_rg, g5], by simp (disch := first|exact dis|fail) only [go_sem, simprocAttr, ↓EU_rg], get_set_same _ _ _, by rw [get_set_ne _ (by omega)]; exact hZ3, by rw [next_set]; omega, (x2.trans x3).set _ _ (by omega), hm'⟩
   ·have d1 : decide (lnCmp x.v m.v < 0) = false := decide_eq_false fun e => q ((lnCmp_neg _ _).1 e)
    rw [if_neg q] at hm'
    simp (disch := first|exact dis|fail) only [go_sem, simprocAttr, ↓EU_rg, g0, g1, g4, g5, g6, hM3, d1, hwi]
    exact ⟨_, by omega, i + 1, _, _, m, rfl, rfl, by omega, by simp (disch := first|exact dis|fail) only [go_sem, simprocAttr, ↓EU_rg, g0], by simp (disch := first|exact dis|fail) only [go_sem, simprocAttr, ↓EU_rg, g1], by simp (disch := first|exact dis|fail) only [go_sem, simprocAttr, ↓EU_rg, g4], by simp (disch := first|exact dis|fail) only [go_sem, simprocAttr, ↓EU_rg, g5], by simp (disch := first|exact dis|fail) only [go_sem, simprocAttr, ↓EU_rg], hM3, hZ3, by omega, x2.trans x3, hm'⟩
  ·simp only [decide_eq_false_iff_not] at b1
   have : i = L.length := by omega
   subst this
   rw [List.drop_length] at hm
   simp (disch := first|exact dis|fail) only [go_sem, simprocAttr, ↓EU_rg]
   exact ⟨_, _, rfl, trivial, by simp (disch := first|exact dis|fail) only [go_sem, simprocAttr, ↓EU_rg, g4], by simp (disch := first|exact dis|fail) only [go_sem, simprocAttr, ↓EU_rg, g5], by rw [hm]; exact hM, hZ, x2⟩
 ·exact ⟨1, _, _, x0, rfl, by omega, by omega, by simp (disch := first|exact dis|fail) only [go_sem, simprocAttr, ↓EU_rg], by simp (disch := first|exact dis|fail) only [go_sem, simprocAttr, ↓EU_rg], by simp (disch := first|exact dis|fail) only [go_sem, simprocAttr, ↓EU_rg], by simp (disch := first|exact dis|fail) only [go_sem, simprocAttr, ↓EU_rg], by simp (disch := first|exact dis|fail) only [go_sem, simprocAttr, ↓EU_rg]; all_goals rfl, by simp (disch := first|exact dis|fail) only [go_sem, simprocAttr, ↓EU_rg], by simp (disch := first|exact dis|fail) only [go_sem, simprocAttr, ↓EU_rg], by simp only [next_push, next_set]; omega, by repeat (first | exact Ext.refl _ | assumption | refine Ext.push ?_ _ | refine Ext.set ?_ _ _ (by first | omega | (simp only [next_push, next_set]; omega))), rfl⟩
 ·omega
 ·rintro ⟨q, _⟩ ⟨tm, h2, rfl, rfl, g4, g5, hM, hZ, x2⟩
  simp (disch := first|exact dis|fail) only [go_sem, simprocAttr, ↓EU_rg, g4, g5, hM, hZ]
  exact ⟨trivial, x2.set _ _ (Nat.le_refl _)⟩
noncomputable def leastP (l : List Pnt) : Pnt := match l with
 | [] => ⟨0, 0, 0, 0⟩
 | x :: l => minP x l
noncomputable def someP (l : List Pnt) : Bool := !decide (l.length = 0)
theorem lnLeast_ev {b : Nat} {v : Value} {base cur : Int} {l : List Pnt} {h : Heap} (q : LQ h b v base cur l) (hl : l.length < 900000) : Pu (EF Tryz.prog O0 131 [ptr b 0] h) h (.tuple ⟨[.agg ⟨pntE (leastP l)⟩, .bool (someP l)]⟩) := by
 have g := q.gb
 have hb := q.lt
 unfold Pu
 rw [EF_body (O := O0) (by kernel_rfl) Tryz.func131 rfl (rs := [.cell 2 155, .tmp 3]) rfl (bad := []) (by kernel_rfl) _ _ (m := 16) rfl]
 cases l with
 | nil =>
  obtain ⟨a, c, hv⟩ := q.ow.val
  subst hv
  have hd : decide (((0 : Nat) : Int) = 0) = true := rfl
  simp (disch := first|exact dis|fail) only [go_sem, simprocAttr, ↓EU_rg, g, hd]
  exact ⟨rfl, by repeat (first | exact Ext.refl _ | assumption | refine Ext.push ?_ _ | refine Ext.set ?_ _ _ (by first | omega | (simp only [next_push, next_set]; omega)))⟩
 | cons x l =>
  obtain ⟨a, c, hv⟩ := q.ow.val
  subst hv
  have hd : decide (((l.length + 1 : Nat) : Int) = 0) = false := decide_eq_false (by omega)
  simp (disch := first|exact dis|fail) only [go_sem, simprocAttr, ↓EU_rg, g, hd]
  repeat refine WPo_ob ?_
  refine (lnMin_ev x l _ _ (q.ow.sl.ext ((Ext.refl _).push _)) (by simp only [List.length_cons] at hl; omega)).mono ?_
  rintro ⟨w, h1⟩ ⟨e, x1⟩
  simp only at e x1
  subst e
  have hn := x1.le
  rw [next_push] at hn
  have hc : h1.get h.next = .cells [.int .i64 0, .int .i64 0, .int .i64 0, .int .i64 0] 0 := by simp (disch := first|exact dis|fail) only [go_sem, simprocAttr, ↓EU_rg, x1.old]
  simp (disch := first|exact dis|fail) only [go_sem, simprocAttr, ↓EU_rg, hc]
  exact ⟨rfl, (((Ext.refl h).push _).trans x1).set _ _ (Nat.le_refl _)⟩
noncomputable def zP : Pnt := ⟨0, 0, 0, 0⟩
noncomputable def nowI (cur : Int) (l : List Pnt) : Option Nat := l.findIdx? (byPid cur)
noncomputable def nowP (cur : Int) (l : List Pnt) : Pnt := match nowI cur l with
 | some i => l.getD i zP
 | none => zP
theorem idx_now (cur : Int) (l : List Pnt) : idx (byPid cur) l = match nowI cur l with
 | some i => (i : Int)
 | none => -1 := rfl
theorem nowI_lt {cur : Int} {l : List Pnt} {i : Nat} (h : nowI cur l = some i) : i < l.length := by
 unfold nowI at h
 rw [List.findIdx?_eq_some_iff_getElem] at h
 exact h.1
noncomputable def growB (base : Int) (l : List Pnt) : Int := if someP l then (if (leastP l).v > base then (leastP l).v else base) else base
noncomputable def chP (p : Pnt) : Pnt := if p.v + wstep p.w ≥ p.day then dayP ⟨p.id, p.w, p.v + wstep p.w, p.day⟩ else ⟨p.id, p.w, p.v + wstep p.w, p.day⟩
theorem chP_id (p : Pnt) : (chP p).id = p.id := by
 unfold chP dayP
 split <;> rfl
section
variable {b : Nat} {v : Value} {base cur : Int} {l : List Pnt} {h : Heap}
theorem lnNow_ev (q : LQ h b v base cur l) (hl : l.length < 900000) : Pu (EF Tryz.prog O0 148 [ptr b 0] h) h (.tuple ⟨[.agg ⟨pntE (nowP cur l)⟩, .bool (nowI cur l).isSome]⟩) := by
 have g := q.gb
 have hb := q.lt
 have hF := lnFind_ev (q.ext ((Ext.refl h).push (.cells [.int .i64 0, .int .i64 0, .int .i64 0, .int .i64 0] 0))) hl cur
 unfold Pu
 rw [EF_body (O := O0) (by kernel_rfl) Tryz.func148 rfl (rs := [.cell 2 155, .tmp 3]) rfl (bad := []) (by kernel_rfl) _ _ (m := 21) rfl]
 simp (disch := first|exact dis|fail) only [go_sem, simprocAttr, ↓EU_rg, g]
 repeat refine WPo_ob ?_
 refine hF.bind fun h1 x1 => ?_
 have hn := x1.le
 rw [next_push] at hn
 have hc : h1.get h.next = .cells [.int .i64 0, .int .i64 0, .int .i64 0, .int .i64 0] 0 := by simp (disch := first|exact dis|fail) only [go_sem, simprocAttr, ↓EU_rg, x1.old]
 have xh : Ext h h1 := ((Ext.refl h).push _).trans x1
 have g1 := (q.ext xh).gb
 rw [idx_now]
 unfold nowP
 cases hi : nowI cur l with
 | none =>
  have hd : decide ((-1 : Int) < 0) = true := rfl
  simp (disch := first|exact dis|fail) only [go_sem, simprocAttr, ↓EU_rg, hd, hc]
  exact ⟨rfl, xh.set _ _ (Nat.le_refl _)⟩
 | some i =>
  have hd : decide ((i : Int) < 0) = false := decide_eq_false (by omega)
  have hil := nowI_lt hi
  obtain ⟨x, hx⟩ : ∃ x, l[i]? = some x := ⟨_, List.getElem?_eq_getElem hil⟩
  have hxd : l.getD i zP = x := by rw [List.getD_eq_getElem?_getD, hx]; rfl
  obtain ⟨b', o, c', e, hb', hr, _⟩ := ((q.ext xh).ow.sl).at hx rfl
  subst e
  simp only [hxd]
  simp (disch := first|exact dis|fail) only [go_sem, simprocAttr, ↓EU_rg, hd, hc, g1, hr]
  exact ⟨trivial, xh.set _ _ (Nat.le_refl _)⟩
theorem lnTake_ev (q : LQ h b v base cur l) (p : Pnt) (ok : Bool) : WPo (EF Tryz.prog O0 130 [ptr b 0, .agg ⟨pntE p⟩, .bool ok] h) fun r => r.1 = .tuple ⟨[.int .i64 (if ok then p.id else 0), .bool ok]⟩ ∧ LQ r.2 b v base (if ok then p.id else -1) l ∧ Mod (fun j => j = b) h r.2 := by
 have g := q.gb
 have hb := q.lt
 have hnb := ow_ne q.ow g (by decide)
 have xp := (Ext.refl h).push (.cells (pntE p) 0)
 have fin : ∀ (c1 c2 : Int) (h' : Heap), h' = ((h.push (.cells (pntE p) 0)).set b (.cells [.int .i64 base, .int .i64 c1, v] 0)).set b (.cells [.int .i64 base, .int .i64 c2, v] 0) → LQ h' b v base c2 l ∧ Mod (fun j => j = b) h h' := fun c1 c2 h' e => by
  subst e
  rw [set_set]
  have m : Mod (fun j => j = b) h ((h.push (.cells (pntE p) 0)).set b (.cells [.int .i64 base, .int .i64 c2, v] 0)) := (xp.mod _).set _ _ fun _ => rfl
  exact ⟨⟨by simp only [next_set, next_push]; omega, get_set_same _ _ _, q.ow.mod m fun i hi e => hnb (by rw [← e]; exact hi)⟩, m⟩
 unfold pntE at *
 rw [EF_body (O := O0) (by kernel_rfl) Tryz.func130 rfl (rs := [.tmp 6, .tmp 7]) rfl (bad := []) (by kernel_rfl) _ _ (m := 20) rfl]
 cases ok with
 | false =>
  simp (disch := first|exact dis|fail) only [go_sem, simprocAttr, ↓EU_rg, g, if_false, Bool.false_eq_true]
  refine ⟨trivial, fin (-1) (-1) _ ?_⟩
  rw [set_set]
 | true =>
  simp (disch := first|exact dis|fail) only [go_sem, simprocAttr, ↓EU_rg, g, if_true]
  refine ⟨trivial, fin (-1) p.id _ ?_⟩
  rw [set_set]
theorem LQ.put {h' : Heap} (q : LQ h b v base cur l) (x : Ext h h') (base' cur' : Int) : LQ (h'.set b (.cells [.int .i64 base', .int .i64 cur', v] 0)) b v base' cur' l ∧ Mod (fun j => j = b) h (h'.set b (.cells [.int .i64 base', .int .i64 cur', v] 0)) := by
 have hnb := ow_ne q.ow q.gb (by decide)
 have m : Mod (fun j => j = b) h (h'.set b (.cells [.int .i64 base', .int .i64 cur', v] 0)) := (x.mod _).set _ _ fun _ => rfl
 exact ⟨⟨by rw [next_set]; exact Nat.lt_of_lt_of_le q.lt x.le, get_set_same _ _ _, q.ow.mod m fun i hi e => hnb (by rw [← e]; exact hi)⟩, m⟩
theorem lnGrow_ev (q : LQ h b v base cur l) (hl : l.length < 900000) : WPo (EF Tryz.prog O0 133 [ptr b 0] h) fun r => LQ r.2 b v (growB base l) cur l ∧ Mod (fun j => j = b) h r.2 := by
 have g := q.gb
 have hb := q.lt
 rw [EF_body (O := O0) (by kernel_rfl) Tryz.func133 rfl (rs := []) rfl (bad := []) (by kernel_rfl) _ _ (m := 20) rfl]
 simp (disch := first|exact dis|fail) only [go_sem, simprocAttr, ↓EU_rg]
 repeat refine WPo_ob ?_
 refine (lnLeast_ev q hl).bind fun h1 x1 => ?_
 have q1 := q.ext x1
 have g1 := q1.gb
 have hn1 := x1.le
 have hlt1 := q1.lt
 unfold growB
 cases hs : someP l with
 | false =>
  unfold pntE
  simp (disch := first|exact dis|fail) only [go_sem, simprocAttr, ↓EU_rg, if_false, Bool.false_eq_true]
  have x2 := x1.push (.cells [.int .i64 (leastP l).id, .int .i64 (leastP l).w, .int .i64 (leastP l).v, .int .i64 (leastP l).day] 0)
  exact ⟨q.ext x2, x2.mod _⟩
 | true =>
  unfold pntE
  simp (disch := first|exact dis|fail) only [go_sem, simprocAttr, ↓EU_rg, g1, if_true]
  exact q.put (x1.push _) _ _
theorem lnCharge_ev (q : LQ h b v base cur l) (hl : l.length < 900000) (hv : ∀ p ∈ l, -2305843009213693952 ≤ p.v ∧ p.v ≤ 2305843008980901392) : WPo (EF Tryz.prog O0 128 [ptr b 0] h) fun r => match nowI cur l with
  | none => r.1 = .tuple ⟨[.int .i64 0, .int .i64 14]⟩ ∧ Ext h r.2
  | some i => r.1 = .tuple ⟨[.int .i64 (l.getD i zP).id, .int .i64 0]⟩ ∧ LQ r.2 b v (growB base (l.set i (chP (l.getD i zP)))) cur (l.set i (chP (l.getD i zP))) ∧ Mod (fun j => j = b ∨ blkOf v j) h r.2 := by
 have g := q.gb
 have hb := q.lt
 rw [EF_body (O := O0) (by kernel_rfl) Tryz.func128 rfl (rs := [.tmp 2, .tmp 3]) rfl (bad := [5]) (by kernel_rfl) _ _ (m := 49) rfl]
 simp (disch := first|exact dis|fail) only [go_sem, simprocAttr, ↓EU_rg, g]
 repeat refine WPo_ob ?_
 refine (lnFind_ev q hl cur).bind fun h1 x1 => ?_
 have q1 := q.ext x1
 have g1 := q1.gb
 rw [idx_now]
 cases hi : nowI cur l with
 | none =>
  have hd : decide ((-1 : Int) < 0) = true := rfl
  simp (disch := first|exact dis|fail) only [go_sem, simprocAttr, ↓EU_rg, hd]
  exact ⟨trivial, x1⟩
 | some i =>
  have hd : decide ((i : Int) < 0) = false := decide_eq_false (by omega)
  have hil := nowI_lt hi
  obtain ⟨x, hx⟩ : ∃ x, l[i]? = some x := ⟨_, List.getElem?_eq_getElem hil⟩
  have hxd : l.getD i zP = x := by rw [List.getD_eq_getElem?_getD, hx]; rfl
  have hvx := hv x (List.mem_of_getElem? hx)
  have hst := wstep_le x.w
  have hw : wrapF .i64 (x.v + wstep x.w) = x.v + wstep x.w := wrap64 (by omega)
  have hlim : decide ((2305843009213693952 : Int) < x.v + wstep x.w) = false := decide_eq_false (by omega)
  obtain ⟨b', o, c', e, hb', hr, _⟩ := (q1.ow.sl).at hx rfl
  simp only [hxd]
  subst e
  unfold pntE at hr
  simp (disch := first|exact dis|fail) only [go_sem, simprocAttr, hd, g1, hr]
  (first | rw [EU_region] | rw [EU_draw _ _ rfl]); simp (disch := first|exact dis|fail) only [go_sem, simprocAttr, hd, g1, hr]
  simp (disch := first|exact dis|fail) only [go_sem, simprocAttr, ↓EU_rg, hd, g1, hr]
  rw [EU_bad _ _ rfl, EC_tab (tab := [(false, none), (false, (some (0, 1))), (false, none), (false, none), (true, none), (false, none), (false, none), (true, none)]) (by kernel_rfl)]
  by_cases hday : x.day ≤ x.v + wstep x.w
  ·have hd2 : decide (x.day ≤ x.v + wstep x.w) = true := decide_eq_true hday
   have hch : chP x = dayP ⟨x.id, x.w, x.v + wstep x.w, x.day⟩ := by unfold chP; rw [if_pos hday]
   have hD := fun h => day_ev ⟨x.id, x.w, x.v + wstep x.w, x.day⟩ h (by simp only; omega)
   unfold pntE at hD
   simp (disch := first|exact dis|fail) only [go_sem, simprocAttr, ↓EU_rg, wstep_ev, hw, hlim, hd2]
   repeat refine WPo_ob ?_
   refine (hD _).bind fun h2 x2 => ?_
   rw [← hch]
   have hn2 := x2.le
   simp only [next_push, next_set] at hn2
   have hlt1 := q1.lt
   have hc2 : h2.get h1.next = .cells [.int .i64 x.id, .int .i64 x.w, .int .i64 (x.v + wstep x.w), .int .i64 x.day] 0 := by simp (disch := first|exact dis|fail) only [go_sem, simprocAttr, ↓EU_rg, x2.old]
   have hx3 : Ext h1 h2 := ((Ext.refl h1).push _).trans x2
   have hpe : pntE (chP x) = [.int .i64 (chP x).id, .int .i64 (chP x).w, .int .i64 (chP x).v, .int .i64 (chP x).day] := by first | rfl | (rw [hch]; rfl)
   have hx2 : Ext h1 (h2.set h1.next (.cells [.int .i64 (chP x).id, .int .i64 (chP x).w, .int .i64 (chP x).v, .int .i64 (chP x).day] 0)) := hx3.set _ _ (Nat.le_refl _)
   have hlen2 : h1.next < (h2.set h1.next (.cells [.int .i64 (chP x).id, .int .i64 (chP x).w, .int .i64 (chP x).v, .int .i64 (chP x).day] 0)).next := by rw [next_set]; omega
   have hB5 : (h2.set h1.next (.cells [.int .i64 (chP x).id, .int .i64 (chP x).w, .int .i64 (chP x).v, .int .i64 (chP x).day] 0)).get h1.next = .cells [.int .i64 (chP x).id, .int .i64 (chP x).w, .int .i64 (chP x).v, .int .i64 (chP x).day] 0 := get_set_same _ _ _
   have q2 := q1.ext hx2
   have g2 := q2.gb
   obtain ⟨B', o', c', cs, e, hlt, hcs, hfit, o1⟩ := q2.ow.put pntE_len i (chP x) hil
   cases e
   have hbB : b ≠ b' := fun e => by rw [← e] at hcs; rw [g2] at hcs; cases hcs
   have h5B : h1.next ≠ b' := by omega
   have w1 : wrc (h2.set h1.next (.cells [.int .i64 (chP x).id, .int .i64 (chP x).w, .int .i64 (chP x).v, .int .i64 (chP x).day] 0)) b' (o + i * 4) [.int .i64 (chP x).id, .int .i64 (chP x).w, .int .i64 (chP x).v, .int .i64 (chP x).day] ((h2).get b') = some ((h2.set h1.next (.cells [.int .i64 (chP x).id, .int .i64 (chP x).w, .int .i64 (chP x).v, .int .i64 (chP x).day] 0)).set b' (.cells (splice cs (o + i * 4) (pntE (chP x))) 4)) := by
    rw [show (h2).get b' = .cells cs 4 from (get_set_ne _ (by omega)).symm.trans hcs, hpe]
    exact wrc_c _ _ _ _ _ _ (by simp only [List.length_cons, List.length_nil]; omega) rfl
   have q3 : LQ ((h2.set h1.next (.cells [.int .i64 (chP x).id, .int .i64 (chP x).w, .int .i64 (chP x).v, .int .i64 (chP x).day] 0)).set b' (.cells (splice cs (o + i * 4) (pntE (chP x))) 4)) b (.slice (some ⟨b', o, none⟩) l.length c') base cur (l.set i (chP x)) := ⟨by rw [next_set]; exact q2.lt, (get_set_ne _ hbB).trans g2, o1⟩
   have m3 : Mod (fun j => j = b ∨ blkOf (.slice (some ⟨b', o, none⟩) l.length c') j) h ((h2.set h1.next (.cells [.int .i64 (chP x).id, .int .i64 (chP x).w, .int .i64 (chP x).v, .int .i64 (chP x).day] 0)).set b' (.cells (splice cs (o + i * 4) (pntE (chP x))) 4)) := ((x1.trans hx2).mod _).set _ _ fun _ => .inr rfl
   have hB6 : ((h2.set h1.next (.cells [.int .i64 (chP x).id, .int .i64 (chP x).w, .int .i64 (chP x).v, .int .i64 (chP x).day] 0)).set b' (.cells (splice cs (o + i * 4) (pntE (chP x))) 4)).get h1.next = .cells [.int .i64 (chP x).id, .int .i64 (chP x).w, .int .i64 (chP x).v, .int .i64 (chP x).day] 0 := (get_set_ne _ h5B).trans hB5
   have hlen3 : h1.next < ((h2.set h1.next (.cells [.int .i64 (chP x).id, .int .i64 (chP x).w, .int .i64 (chP x).v, .int .i64 (chP x).day] 0)).set b' (.cells (splice cs (o + i * 4) (pntE (chP x))) 4)).next := by rw [next_set]; exact hlen2
   have g3 := q3.gb
   simp (disch := first|exact dis|fail) only [go_sem, simprocAttr, ↓EU_rg, g2, hB5, w1, hc2]
   generalize (h2.set h1.next (.cells [.int .i64 (chP x).id, .int .i64 (chP x).w, .int .i64 (chP x).v, .int .i64 (chP x).day] 0)).set b' (.cells (splice cs (o + i * 4) (pntE (chP x))) 4) = h3 at *
   repeat refine WPo_ob ?_
   refine (lnGrow_ev q3 (by rw [List.length_set]; exact hl)).mono ?_
   rintro ⟨w, h4⟩ ⟨q4, m4⟩
   simp only at q4 m4
   have hB7 := (m4.old h1.next hlen3 (by omega)).trans hB6
   simp (disch := first|exact dis|fail) only [go_sem, simprocAttr, ↓EU_rg, hB7, chP_id]
   exact ⟨trivial, q4, m3.trans (m4.mono fun _ _ e => .inl e)⟩
  ·have hd2 : decide (x.day ≤ x.v + wstep x.w) = false := decide_eq_false hday
   have hch : chP x = ⟨x.id, x.w, x.v + wstep x.w, x.day⟩ := by unfold chP; rw [if_neg hday]
   have hlt1 := q1.lt
   have hpe : pntE (chP x) = [.int .i64 x.id, .int .i64 x.w, .int .i64 (x.v + wstep x.w), .int .i64 x.day] := by first | rfl | (rw [hch]; rfl)
   have hx2 : Ext h1 (h1.push (.cells [.int .i64 x.id, .int .i64 x.w, .int .i64 (x.v + wstep x.w), .int .i64 x.day] 0)) := (Ext.refl _).push _
   have hlen2 : h1.next < (h1.push (.cells [.int .i64 x.id, .int .i64 x.w, .int .i64 (x.v + wstep x.w), .int .i64 x.day] 0)).next := by rw [next_push]; omega
   have hB5 : (h1.push (.cells [.int .i64 x.id, .int .i64 x.w, .int .i64 (x.v + wstep x.w), .int .i64 x.day] 0)).get h1.next = .cells [.int .i64 x.id, .int .i64 x.w, .int .i64 (x.v + wstep x.w), .int .i64 x.day] 0 := get_push_new _ _
   have q2 := q1.ext hx2
   have g2 := q2.gb
   obtain ⟨B', o', c', cs, e, hlt, hcs, hfit, o1⟩ := q2.ow.put pntE_len i (chP x) hil
   cases e
   have hbB : b ≠ b' := fun e => by rw [← e] at hcs; rw [g2] at hcs; cases hcs
   have h5B : h1.next ≠ b' := by omega
   have w1 : wrc (h1.push (.cells [.int .i64 x.id, .int .i64 x.w, .int .i64 (x.v + wstep x.w), .int .i64 x.day] 0)) b' (o + i * 4) [.int .i64 x.id, .int .i64 x.w, .int .i64 (x.v + wstep x.w), .int .i64 x.day] ((h1).get b') = some ((h1.push (.cells [.int .i64 x.id, .int .i64 x.w, .int .i64 (x.v + wstep x.w), .int .i64 x.day] 0)).set b' (.cells (splice cs (o + i * 4) (pntE (chP x))) 4)) := by
    rw [show (h1).get b' = .cells cs 4 from (get_push_old _ hb').symm.trans hcs, hpe]
    exact wrc_c _ _ _ _ _ _ (by simp only [List.length_cons, List.length_nil]; omega) rfl
   have q3 : LQ ((h1.push (.cells [.int .i64 x.id, .int .i64 x.w, .int .i64 (x.v + wstep x.w), .int .i64 x.day] 0)).set b' (.cells (splice cs (o + i * 4) (pntE (chP x))) 4)) b (.slice (some ⟨b', o, none⟩) l.length c') base cur (l.set i (chP x)) := ⟨by rw [next_set]; exact q2.lt, (get_set_ne _ hbB).trans g2, o1⟩
   have m3 : Mod (fun j => j = b ∨ blkOf (.slice (some ⟨b', o, none⟩) l.length c') j) h ((h1.push (.cells [.int .i64 x.id, .int .i64 x.w, .int .i64 (x.v + wstep x.w), .int .i64 x.day] 0)).set b' (.cells (splice cs (o + i * 4) (pntE (chP x))) 4)) := ((x1.trans hx2).mod _).set _ _ fun _ => .inr rfl
   have hB6 : ((h1.push (.cells [.int .i64 x.id, .int .i64 x.w, .int .i64 (x.v + wstep x.w), .int .i64 x.day] 0)).set b' (.cells (splice cs (o + i * 4) (pntE (chP x))) 4)).get h1.next = .cells [.int .i64 x.id, .int .i64 x.w, .int .i64 (x.v + wstep x.w), .int .i64 x.day] 0 := (get_set_ne _ h5B).trans hB5
   have hlen3 : h1.next < ((h1.push (.cells [.int .i64 x.id, .int .i64 x.w, .int .i64 (x.v + wstep x.w), .int .i64 x.day] 0)).set b' (.cells (splice cs (o + i * 4) (pntE (chP x))) 4)).next := by rw [next_set]; exact hlen2
   have g3 := q3.gb
   simp (disch := first|exact dis|fail) only [go_sem, simprocAttr, ↓EU_rg, g2, hB5, w1, wstep_ev, hw, hlim, hd2]
   generalize (h1.push (.cells [.int .i64 x.id, .int .i64 x.w, .int .i64 (x.v + wstep x.w), .int .i64 x.day] 0)).set b' (.cells (splice cs (o + i * 4) (pntE (chP x))) 4) = h3 at *
   repeat refine WPo_ob ?_
   refine (lnGrow_ev q3 (by rw [List.length_set]; exact hl)).mono ?_
   rintro ⟨w, h4⟩ ⟨q4, m4⟩
   simp only at q4 m4
   have hB7 := (m4.old h1.next hlen3 (by omega)).trans hB6
   simp (disch := first|exact dis|fail) only [go_sem, simprocAttr, ↓EU_rg, hB7, chP_id]
   exact ⟨trivial, q4, m3.trans (m4.mono fun _ _ e => .inl e)⟩
end
theorem mul_hi0 {a b c d t w : Int} (p11 : 0 ≤ a ∧ a ≤ 18446744065119617025) (p10 : 0 ≤ b ∧ b ≤ 18446744065119617025) (p01 : 0 ≤ c ∧ c ≤ 18446744065119617025) (p00 : 0 ≤ d ∧ d ≤ 18446744065119617025)
  (ht : b + d / 4294967296 = t) (hw : t % 4294967296 + c = w) :
  (0 ≤ t ∧ t < 18446744073709551616) ∧ (0 ≤ w ∧ w < 18446744073709551616) ∧ a + t / 4294967296 + w / 4294967296 = (a * 18446744073709551616 + (b + c) * 4294967296 + d) / 18446744073709551616 ∧ 0 ≤ a + t / 4294967296 ∧ a + t / 4294967296 + w / 4294967296 < 18446744073709551616 := by
 subst hw
 subst ht
 refine ⟨?_, ?_, ?_, ?_, ?_⟩ <;> omega
theorem mul_parts {x y : Int} : x * y = (x / 4294967296) * (y / 4294967296) * 18446744073709551616 + ((x / 4294967296) * (y % 4294967296) + (x % 4294967296) * (y / 4294967296)) * 4294967296 + (x % 4294967296) * (y % 4294967296) := by
 have hx := Int.mul_ediv_add_emod x 4294967296
 have hy := Int.mul_ediv_add_emod y 4294967296
 generalize x / 4294967296 = x1 at *
 generalize x % 4294967296 = x0 at *
 generalize y / 4294967296 = y1 at *
 generalize y % 4294967296 = y0 at *
 subst hx
 subst hy
 grind
theorem mul_range {a b : Int} (ha : 0 ≤ a ∧ a ≤ 4294967295) (hb : 0 ≤ b ∧ b ≤ 4294967295) : 0 ≤ a * b ∧ a * b ≤ 18446744065119617025 :=
 ⟨Int.mul_nonneg ha.1 hb.1, Int.mul_le_mul ha.2 hb.2 hb.1 (by decide)⟩
theorem wU64 {n : Int} (h : 0 ≤ n ∧ n < 18446744073709551616) : wrapF .u64 n = n := wrapU rfl h
theorem wU64_mod (n : Int) : wrapF .u64 n = n % 18446744073709551616 := by
 unfold wrapF
 simp only [show sgnK .u64 = false from rfl, Bool.false_and, cnd_false]; rfl
theorem shr32 (P : Program) (t : TypeId) (x y : Operand) (a : Int) : evBin P .shr t x y (.int .u64 a) (.int .u64 32) = some (.int .u64 (a / 4294967296)) :=
 bin_shr64 P t x y (k := .u64) (j := .u64) (by decide)
theorem and32 (P : Program) (t : TypeId) (x y : Operand) {a : Int} (h : 0 ≤ a ∧ a < 18446744073709551616) : evBin P .and t x y (.int .u64 a) (.int .u64 4294967295) = some (.int .u64 (a % 4294967296)) := by
 rw [bin_andI P t x y (k := .u64) rfl h (by decide)]
 have e : a.toNat &&& (4294967295 : Int).toNat = a.toNat % 4294967296 := Nat.and_two_pow_sub_one_eq_mod a.toNat 32
 rw [e]
 congr 2
 omega
theorem mul64_ev (a b : Int) (h : Heap) (ha : 0 ≤ a ∧ a < 18446744073709551616) (hb : 0 ≤ b ∧ b < 18446744073709551616) :
  EF Tryz.prog O0 157 [.int .u64 a, .int .u64 b] h = some (.tuple ⟨[.int .u64 (a * b / 18446744073709551616), .int .u64 (a * b % 18446744073709551616)]⟩, h) := by
 have : WPo (EF Tryz.prog O0 157 [.int .u64 a, .int .u64 b] h) fun q => q = (.tuple ⟨[.int .u64 (a * b / 18446744073709551616), .int .u64 (a * b % 18446744073709551616)]⟩, h) := by
  have e := @mul_parts a b
  have h0 : 0 ≤ a % 4294967296 ∧ a % 4294967296 ≤ 4294967295 := by omega
  have h1 : 0 ≤ a / 4294967296 ∧ a / 4294967296 ≤ 4294967295 := by omega
  have k0 : 0 ≤ b % 4294967296 ∧ b % 4294967296 ≤ 4294967295 := by omega
  have k1 : 0 ≤ b / 4294967296 ∧ b / 4294967296 ≤ 4294967295 := by omega
  have p00 := mul_range h0 k0
  have p01 := mul_range h0 k1
  have p10 := mul_range h1 k0
  have p11 := mul_range h1 k1
  rw [EF_body (O := O0) (by kernel_rfl) Tryz.func157 rfl (rs := [.tmp 4, .tmp 5]) rfl (bad := []) (by kernel_rfl) _ _ (m := 51) rfl]
  have aa := fun t x y => and32 Tryz.prog t x y ha
  have ab := fun t x y => and32 Tryz.prog t x y hb
  have wab := wU64_mod (a * b)
  obtain ⟨z11, e11⟩ : ∃ z, a / 4294967296 * (b / 4294967296) = z := ⟨_, rfl⟩
  obtain ⟨z10, e10⟩ : ∃ z, a / 4294967296 * (b % 4294967296) = z := ⟨_, rfl⟩
  obtain ⟨z01, e01⟩ : ∃ z, a % 4294967296 * (b / 4294967296) = z := ⟨_, rfl⟩
  obtain ⟨z00, e00⟩ : ∃ z, a % 4294967296 * (b % 4294967296) = z := ⟨_, rfl⟩
  rw [e11] at p11 e
  rw [e10] at p10 e
  rw [e01] at p01 e
  rw [e00] at p00 e
  have w00 := wU64 (n := z00) (by omega)
  have w01 := wU64 (n := z01) (by omega)
  have w10 := wU64 (n := z10) (by omega)
  have w11 := wU64 (n := z11) (by omega)
  obtain ⟨t, ht⟩ : ∃ t, z10 + z00 / 4294967296 = t := ⟨_, rfl⟩
  obtain ⟨w, hw⟩ : ∃ w, t % 4294967296 + z01 = w := ⟨_, rfl⟩
  obtain ⟨m1, m2, m3, m4, m5⟩ := mul_hi0 p11 p10 p01 p00 ht hw
  have wt := wU64 m1
  have ww := wU64 m2
  have at' := fun t' x y => and32 Tryz.prog t' x y m1
  have wm := wU64 (n := z11 + t / 4294967296) (by omega)
  have wn := wU64 (n := z11 + t / 4294967296 + w / 4294967296) (by omega)
  rw [← e] at m3
  rw [← m3]
  simp (disch := first|exact dis|fail) only [go_sem, simprocAttr, ↓EU_rg, shr32, aa, ab, e00, e01, e10, e11, w00, w01, w10, w11, ht, wt, at', hw, ww, wm, wn, wab]
 obtain ⟨q, e, rfl⟩ := this
 exact e
noncomputable def spread (lv : Int) (l : List Pnt) : Int := l.foldl (fun a p => a + (p.v - lv) * p.w) 0
noncomputable def totW (l : List Pnt) : Int := l.foldl (fun a p => a + p.w) 0
theorem foldl_addF {α : Type} (f : α → Int) (l : List α) : ∀ a, l.foldl (fun a p => a + f p) a = a + l.foldl (fun a p => a + f p) 0 := by
 induction l with
 | nil => intro a; simp
 | cons x l ih => intro a; rw [List.foldl_cons, List.foldl_cons, ih, ih (0 + f x)]; omega
noncomputable def dueStep (S T lv : Int) (b : Option Pnt) (p : Pnt) : Option Pnt := if S < (p.v - lv) * T then b else match b with
 | none => some p
 | some q => if p.day < q.day then some p else some q
noncomputable def dueBest (l : List Pnt) : Option Pnt := l.foldl (dueStep (spread (leastP l).v l) (totW l) (leastP l).v) none
noncomputable def pickI (tag cur : Int) (l : List Pnt) : Option Int :=
 if tag = 1 ∧ (nowI cur l).isSome = true ∧ (nowP cur l).v - 465585120 ≤ (leastP l).v then some (nowP cur l).id
 else if tag = 2 then (dueBest l).map Pnt.id
 else if someP l = true then some (leastP l).id else none
noncomputable def curR (tag cur : Int) (l : List Pnt) : Int := (pickI tag cur l).getD (-1)
noncomputable def PickPost (b : Nat) (v : Value) (base cur : Int) (l : List Pnt) (h : Heap) (tag : Int) (r : Value × Heap) : Prop :=
 (∃ x y, r.1 = .tuple ⟨[.int .i64 x, .bool y]⟩) ∧ Mod (fun j => j = b) h r.2 ∧ ∃ c, LQ r.2 b v base c l ∧ (pickI tag cur l = some cur ∧ c = cur ∨ c = curR tag cur l)
theorem PickPost.cur {b : Nat} {v : Value} {base cur : Int} {l : List Pnt} {h : Heap} {tag : Int} {r : Value × Heap} (p : PickPost b v base cur l h tag r) : LQ r.2 b v base (curR tag cur l) l := by
 obtain ⟨_, _, c, q, k⟩ := p
 rcases k with ⟨k1, rfl⟩ | rfl
 ·unfold curR; rw [k1]; exact q
 ·exact q
section
variable {b : Nat} {v : Value} {base cur : Int} {l : List Pnt} {h : Heap}
theorem pickI_0 (cur : Int) (l : List Pnt) : pickI 0 cur l = if someP l = true then some (leastP l).id else none := by
 unfold pickI
 rw [if_neg (by omega), if_neg (by omega)]
theorem pickI_1 (cur : Int) (l : List Pnt) (h : ¬ ((nowI cur l).isSome = true ∧ (nowP cur l).v - 465585120 ≤ (leastP l).v)) : pickI 1 cur l = if someP l = true then some (leastP l).id else none := by
 unfold pickI
 rw [if_neg (fun e => h e.2), if_neg (by omega)]
theorem pickI_2 (cur : Int) (l : List Pnt) : pickI 2 cur l = (dueBest l).map Pnt.id := by
 unfold pickI
 rw [if_neg (by omega), if_pos rfl]
theorem stridePick_ev (q : LQ h b v base cur l) (hl : l.length < 900000) : WPo (EF Tryz.prog O0 125 [ptr b 0] h) (PickPost b v base cur l h 0) := by
 rw [EF_body (O := O0) (by kernel_rfl) Tryz.func125 rfl (rs := [.tmp 2, .tmp 3]) rfl (bad := []) (by kernel_rfl) _ _ (m := 16) rfl]
 simp (disch := first|exact dis|fail) only [go_sem, simprocAttr, ↓EU_rg]
 repeat refine WPo_ob ?_
 refine (lnLeast_ev q hl).bind fun h1 x1 => ?_
 simp (disch := first|exact dis|fail) only [go_sem, simprocAttr, ↓EU_rg]
 repeat refine WPo_ob ?_
 refine (lnTake_ev (q.ext x1) (leastP l) (someP l)).mono ?_
 rintro ⟨w, h2⟩ ⟨e, q2, m2⟩
 simp only at e q2 m2
 subst e
 simp (disch := first|exact dis|fail) only [go_sem, simprocAttr, ↓EU_rg]
 refine ⟨⟨_, _, rfl⟩, (x1.mod _).trans m2, _, q2, .inr ?_⟩
 unfold curR
 rw [pickI_0]
 cases someP l <;> rfl
theorem now_some (hn : (nowI cur l).isSome = true) : ∃ i, nowI cur l = some i ∧ l[i]? = some (nowP cur l) ∧ (nowP cur l).id = cur := by
 cases hi : nowI cur l with
 | none => rw [hi] at hn; cases hn
 | some i =>
  have hl := nowI_lt hi
  have e : nowP cur l = l[i] := by unfold nowP; rw [hi]; simp [hl]
  refine ⟨i, rfl, by rw [e]; exact List.getElem?_eq_getElem hl, ?_⟩
  unfold nowI at hi
  rw [List.findIdx?_eq_some_iff_getElem] at hi
  have := hi.2.1
  rw [e]
  unfold byPid at this
  simpa using this
theorem fairPick_ev (q : LQ h b v base cur l) (hl : l.length < 900000) (hv : ∀ p ∈ l, -2305843009213693952 ≤ p.v ∧ p.v ≤ 2305843008980901392) : WPo (EF Tryz.prog O0 145 [ptr b 0] h) (PickPost b v base cur l h 1) := by
 rw [EF_body (O := O0) (by kernel_rfl) Tryz.func145 rfl (rs := [.tmp 2, .tmp 3]) rfl (bad := []) (by kernel_rfl) _ _ (m := 41) rfl]
 simp (disch := first|exact dis|fail) only [go_sem, simprocAttr, ↓EU_rg]
 repeat refine WPo_ob ?_
 refine (lnLeast_ev q hl).bind fun h1 x1 => ?_
 simp (disch := first|exact dis|fail) only [go_sem, simprocAttr, ↓EU_rg]
 repeat refine WPo_ob ?_
 have x1' := x1.push (.cells (pntE (leastP l)) 0)
 refine (lnNow_ev (q.ext x1') hl).bind fun h2 x2 => ?_
 have hn1 := x1.le
 have hn2 := x2.le
 rw [next_push] at hn2
 have hc2 : h2.get h1.next = .cells (pntE (leastP l)) 0 := by rw [x2.old _ (by rw [next_push]; omega)]; exact get_push_new _ _
 have xa := x1'.trans x2
 have qq : ∀ q : Pnt, pntE q = [.int .i64 q.id, .int .i64 q.w, .int .i64 q.v, .int .i64 q.day] := fun _ => rfl
 cases hs : (nowI cur l).isSome with
 | true =>
  obtain ⟨i, hi, hx, hid⟩ := now_some hs
  have hvx := hv _ (List.mem_of_getElem? hx)
  have hw : wrapF .i64 ((nowP cur l).v - 465585120) = (nowP cur l).v - 465585120 := wrap64 (by omega)
  by_cases hd : (nowP cur l).v - 465585120 ≤ (leastP l).v
  ·have d1 : decide ((nowP cur l).v - 465585120 ≤ (leastP l).v) = true := decide_eq_true hd
   rw [qq] at hc2
   simp only [qq]
   simp (disch := first|exact dis|fail) only [go_sem, simprocAttr, ↓EU_rg, hc2, hw, d1]
   refine ⟨⟨_, _, rfl⟩, (xa.push _).mod _, cur, q.ext (xa.push _), .inl ⟨?_, rfl⟩⟩
   unfold pickI
   rw [if_pos ⟨rfl, hs, hd⟩, hid]
  ·have d1 : decide ((nowP cur l).v - 465585120 ≤ (leastP l).v) = false := decide_eq_false hd
   have hT := lnTake_ev (q.ext (xa.push (.cells (pntE (nowP cur l)) 0))) (leastP l) (someP l)
   simp only [qq] at hT
   rw [qq] at hc2
   simp only [qq]
   simp (disch := first|exact dis|fail) only [go_sem, simprocAttr, ↓EU_rg, hc2, hw, d1]
   repeat refine WPo_ob ?_
   refine hT.mono ?_
   rintro ⟨w, h3⟩ ⟨e, q3, m3⟩
   simp only at e q3 m3
   subst e
   simp (disch := first|exact dis|fail) only [go_sem, simprocAttr, ↓EU_rg]
   refine ⟨⟨_, _, rfl⟩, ((xa.push _).mod _).trans m3, _, q3, .inr ?_⟩
   unfold curR
   rw [pickI_1 _ _ fun e => hd e.2]
   cases someP l <;> rfl
 | false =>
  have hT := lnTake_ev (q.ext (xa.push (.cells (pntE (nowP cur l)) 0))) (leastP l) (someP l)
  simp only [qq] at hT
  rw [qq] at hc2
  simp only [qq]
  simp (disch := first|exact dis|fail) only [go_sem, simprocAttr, ↓EU_rg, hc2]
  repeat refine WPo_ob ?_
  refine hT.mono ?_
  rintro ⟨w, h3⟩ ⟨e, q3, m3⟩
  simp only at e q3 m3
  subst e
  simp (disch := first|exact dis|fail) only [go_sem, simprocAttr, ↓EU_rg]
  refine ⟨⟨_, _, rfl⟩, ((xa.push _).mod _).trans m3, _, q3, .inr ?_⟩
  unfold curR
  rw [pickI_1 _ _ fun e => by rw [hs] at e; cases e.1]
  cases someP l <;> rfl
end
theorem minP_le : ∀ (l : List Pnt) (m : Pnt), (minP m l).v ≤ m.v ∧ ∀ p ∈ l, (minP m l).v ≤ p.v
 | [], m => ⟨Int.le_refl _, fun p h => by cases h⟩
 | x :: l, m => by
  unfold minP
  have ih := minP_le l (if x.v < m.v then x else m)
  have e1 : (if x.v < m.v then x else m).v ≤ m.v := by split <;> omega
  have e2 : (if x.v < m.v then x else m).v ≤ x.v := by split <;> omega
  refine ⟨by omega, fun p hp => ?_⟩
  rcases List.mem_cons.1 hp with rfl | hp
  ·omega
  ·exact ih.2 p hp
theorem minP_mem : ∀ (l : List Pnt) (m : Pnt), minP m l = m ∨ minP m l ∈ l
 | [], m => .inl rfl
 | x :: l, m => by
  unfold minP
  rcases minP_mem l (if x.v < m.v then x else m) with h | h
  ·rw [h]
   split
   ·exact .inr (List.mem_cons_self ..)
   ·exact .inl rfl
  ·exact .inr (List.mem_cons_of_mem _ h)
theorem leastP_le {l : List Pnt} {p : Pnt} (h : p ∈ l) : (leastP l).v ≤ p.v := by
 cases l with
 | nil => cases h
 | cons x l =>
  rcases List.mem_cons.1 h with rfl | h
  ·exact (minP_le l p).1
  ·exact (minP_le l x).2 p h
theorem leastP_mem {l : List Pnt} (h : l ≠ []) : leastP l ∈ l := by
 cases l with
 | nil => exact absurd rfl h
 | cons x l =>
  rcases minP_mem l x with e | e
  ·show minP x l ∈ x :: l
   rw [e]; exact List.mem_cons_self ..
  ·exact List.mem_cons_of_mem _ e
noncomputable def wideSum (S hi lo : Int) : Prop := hi * 18446744073709551616 + lo = S ∧ 0 ≤ lo ∧ lo < 18446744073709551616 ∧ 0 ≤ hi ∧ hi < 9223372036854775808
theorem wideSum_add {S hi lo x : Int} {i : Nat} (h : wideSum S hi lo) (hx : 0 ≤ x) (hS : S ≤ i * 92233720368547758080) (hxb : x ≤ 92233720368547758080) (hi' : i < 900000) :
  wideSum (S + x) (hi + (x / 18446744073709551616 + (lo + x % 18446744073709551616 + 0) / 18446744073709551616)) ((lo + x % 18446744073709551616 + 0) % 18446744073709551616) ∧ S + x ≤ (i + 1 : Nat) * 92233720368547758080 := by
 obtain ⟨h1, h2, h3, h4, h5⟩ := h
 unfold wideSum
 omega
theorem ahead_iff {S hi lo d h l : Int} (w : wideSum S hi lo) (hd : h * 18446744073709551616 + l = d) (hl : 0 ≤ l ∧ l < 18446744073709551616) : (hi < h ∨ h = hi ∧ lo < l) ↔ S < d := by
 obtain ⟨h1, h2, h3, h4, h5⟩ := w
 omega
noncomputable def bestE (o : Option Pnt) : List Value := pntE (o.getD zP)
theorem dueStep_keep {S T lv : Int} {o : Option Pnt} {p : Pnt} (h : S < (p.v - lv) * T) : dueStep S T lv o p = o := if_pos h
theorem dueStep_none {S T lv : Int} {p : Pnt} (h : ¬ S < (p.v - lv) * T) : dueStep S T lv none p = some p := if_neg h
theorem dueStep_some {S T lv : Int} {o p : Pnt} (h : ¬ S < (p.v - lv) * T) : dueStep S T lv (some o) p = if p.day < o.day then some p else some o := if_neg h
theorem foldl_snoc {α β : Type} (f : β → α → β) (a : β) {l : List α} {i : Nat} {x : α} (h : l[i]? = some x) : (l.take (i + 1)).foldl f a = f ((l.take i).foldl f a) x := by
 rw [List.take_add_one, h, List.foldl_append]; rfl
set_option maxHeartbeats 2000000 in
theorem duePick_ev {b : Nat} {v : Value} {base cur : Int} {l : List Pnt} {h : Heap} (q : LQ h b v base cur l) (hl : l.length < 900000) (hv : ∀ p ∈ l, -2305843009213693952 ≤ p.v ∧ p.v ≤ 2305843008980901392) (hw : ∀ p ∈ l, 1 ≤ p.w ∧ p.w ≤ 20) : WPo (EF Tryz.prog O0 154 [ptr b 0] h) (PickPost b v base cur l h 2) := by
 have hdist : ∀ p ∈ l, 0 ≤ p.v - (leastP l).v ∧ p.v - (leastP l).v ≤ 4611686018427387904 := fun p hp => by
  have h1 := leastP_le hp
  have h2 := hv p hp
  have h3 := hv _ (leastP_mem (l := l) (fun e => by rw [e] at hp; cases hp))
  omega
 rw [EF_body (O := O0) (by kernel_rfl) Tryz.func154 rfl (rs := [.tmp 2, .tmp 3]) rfl (bad := []) (by kernel_rfl) _ _ (m := 125) rfl]
 simp (disch := first|exact dis|fail) only [go_sem, simprocAttr, ↓EU_rg]
 repeat refine WPo_ob ?_
 refine (lnLeast_ev q hl).bind fun h1 x1 => ?_
 have hn1 := x1.le
 have hb := q.lt
 obtain ⟨lp, hlp⟩ : ∃ lp, lp = leastP l := ⟨_, rfl⟩
 rw [← hlp] at hdist ⊢
 have q1 := q.ext x1
 have g1 := q1.gb
 obtain ⟨a, c, hvv⟩ := q1.ow.val
 subst hvv
 have hs := q1.ow.sl
 simp (disch := first|exact dis|fail) only [go_sem, simprocAttr, ↓EU_rg, g1]
 repeat refine WPo_ob ?_
 refine (LP_rule (fun m st => ∃ (i : Nat) (tm : Fr) (h2 : Heap) (hi lo : Int), st = ⟨tm, h2, []⟩ ∧ m = l.length - i ∧ i ≤ l.length ∧ Fr.get tm 0 = ptr b 0 ∧ Fr.get tm 4 = ptr h1.next 0 ∧ Fr.get tm 6 = .int .u64 (totW (l.take i)) ∧ Fr.get tm 7 = .int .u64 hi ∧ Fr.get tm 8 = .int .u64 lo ∧ Fr.get tm 32 = .slice a l.length c ∧ Fr.get tm 33 = .int .i64 l.length ∧ Fr.get tm 34 = .int .i64 i ∧ Ext (h1.push (.cells (pntE lp) 0)) h2 ∧ wideSum (spread lp.v (l.take i)) hi lo ∧ spread lp.v (l.take i) ≤ i * 92233720368547758080 ∧ 0 ≤ totW (l.take i) ∧ totW (l.take i) ≤ 20 * i)
  (fun q => ∃ tm h2 hi lo, q.2 = ⟨tm, h2, []⟩ ∧ q.1 = .exit 0 ∧ Fr.get tm 0 = ptr b 0 ∧ Fr.get tm 4 = ptr h1.next 0 ∧ Fr.get tm 6 = .int .u64 (totW l) ∧ Fr.get tm 7 = .int .u64 hi ∧ Fr.get tm 8 = .int .u64 lo ∧ Ext (h1.push (.cells (pntE lp) 0)) h2 ∧ wideSum (spread lp.v l) hi lo ∧ 0 ≤ totW l ∧ totW l ≤ 20 * l.length) ?_ l.length _ _ ?_ ?_).mono ?_
 ·rintro m _ ⟨i, tm, h2, hi, lo, rfl, rfl, hil, g0, g4, g6, g7, g8, g32, g33, g34, x2, hS, hSb, hT0, hT1⟩
  simp (disch := first|exact dis|fail) only [go_sem, simprocAttr, ↓EU_rg, g33, g34]
  ((repeat refine WPo_ob ?_); (first | refine WPo_cond (fun b1 => ?_) (fun b1 => ?_) | refine WPo_gard (fun b1 => ?_) (fun b1 => ?_) | refine WPo_gardT (fun b1 => ?_) (fun b1 => ?_)) <;> (try simp only [Bool.not_eq_true', Bool.not_eq_false'] at b1))
  ·have b1' := b1
   simp only [decide_eq_true_eq] at b1'
   have hi' : i < l.length := by omega
   obtain ⟨x, hx⟩ : ∃ x, l[i]? = some x := ⟨_, List.getElem?_eq_getElem hi'⟩
   have hxm := List.mem_of_getElem? hx
   have hdx := hdist x hxm
   have hwx := hw x hxm
   have hvx := hv x hxm
   have hlpc : h2.get h1.next = .cells (pntE lp) 0 := by rw [x2.old _ (by rw [next_push]; omega)]; exact get_push_new _ _
   have hn2 := x2.le
   rw [next_push] at hn2
   obtain ⟨b', o, c', e, hb', hrd, hr⟩ := ((hs.ext ((Ext.refl h1).push _)).ext x2).at hx rfl
   cases e
   unfold pntE at hrd hlpc
   have w1 : wrapF .u64 x.w = x.w := wU64 (by omega)
   have w2 : wrapF .u64 (totW (l.take i) + x.w) = totW (l.take (i + 1)) := by
    have : totW (l.take (i + 1)) = totW (l.take i) + x.w := by unfold totW; rw [foldl_snoc _ _ hx]
    rw [this]; exact wU64 (by omega)
   have hT' : totW (l.take (i + 1)) = totW (l.take i) + x.w := by unfold totW; rw [foldl_snoc _ _ hx]
   have hS' : spread lp.v (l.take (i + 1)) = spread lp.v (l.take i) + (x.v - lp.v) * x.w := by unfold spread; rw [foldl_snoc _ _ hx]
   have w3 : wrapF .i64 (x.v - lp.v) = x.v - lp.v := wrap64 (by omega)
   have w4 : wrapF .u64 (x.v - lp.v) = x.v - lp.v := wU64 (by omega)
   have hp0 : 0 ≤ (x.v - lp.v) * x.w := Int.mul_nonneg hdx.1 (by omega)
   have hp1 : (x.v - lp.v) * x.w ≤ 4611686018427387904 * 20 := Int.mul_le_mul hdx.2 hwx.2 (by omega) (by omega)
   obtain ⟨hS2, hSb2⟩ := wideSum_add hS hp0 hSb hp1 (by omega)
   have hM := fun h => mul64_ev (x.v - lp.v) x.w h (by omega) (by omega)
   generalize hz : (x.v - lp.v) * x.w = z at *
   obtain ⟨hs1, hs2, hs3, hs4, hs5⟩ := hS
   have hA := fun h => add64_ev lo (z % 18446744073709551616) 0 h hs2 (by omega) (by omega) (by omega)
   obtain ⟨ht1, ht2, ht3, ht4, ht5⟩ := hS2
   have w5 : wrapF .u64 (z / 18446744073709551616 + (lo + z % 18446744073709551616 + 0) / 18446744073709551616) = z / 18446744073709551616 + (lo + z % 18446744073709551616 + 0) / 18446744073709551616 := wU64 (by omega)
   have w6 : wrapF .u64 (hi + (z / 18446744073709551616 + (lo + z % 18446744073709551616 + 0) / 18446744073709551616)) = hi + (z / 18446744073709551616 + (lo + z % 18446744073709551616 + 0) / 18446744073709551616) := wU64 (by omega)
   simp (disch := first|exact dis|fail) only [go_sem, simprocAttr, ↓EU_rg, g0, g4, g6, g7, g8, g32, g33, g34, hrd, hlpc, w1, w2, w3, w4, hM, hA, w5, w6]
   refine ⟨_, by omega, i + 1, _, _, hi + (z / 18446744073709551616 + (lo + z % 18446744073709551616 + 0) / 18446744073709551616), (lo + z % 18446744073709551616 + 0) % 18446744073709551616, rfl, rfl, by omega, by simp (disch := first|exact dis|fail) only [go_sem, simprocAttr, ↓EU_rg, g0], by simp (disch := first|exact dis|fail) only [go_sem, simprocAttr, ↓EU_rg, g4], by simp (disch := first|exact dis|fail) only [go_sem, simprocAttr, ↓EU_rg], by simp (disch := first|exact dis|fail) only [go_sem, simprocAttr, ↓EU_rg], by simp (disch := first|exact dis|fail) only [go_sem, simprocAttr, ↓EU_rg], by simp (disch := first|exact dis|fail) only [go_sem, simprocAttr, ↓EU_rg, g32], by simp (disch := first|exact dis|fail) only [go_sem, simprocAttr, ↓EU_rg, g33], by simp (disch := first|exact dis|fail) only [go_sem, simprocAttr, ↓EU_rg], x2.push _, ?_, ?_, by omega, by omega⟩
   ·rw [hS']; exact ⟨ht1, ht2, ht3, ht4, ht5⟩
   ·rw [hS']; exact hSb2
  ·simp only [decide_eq_false_iff_not] at b1
   have : i = l.length := by omega
   subst this
   rw [List.take_length] at *
   simp (disch := first|exact dis|fail) only [go_sem, simprocAttr, ↓EU_rg]
   exact ⟨_, _, hi, lo, rfl, trivial, by simp (disch := first|exact dis|fail) only [go_sem, simprocAttr, ↓EU_rg, g0], by simp (disch := first|exact dis|fail) only [go_sem, simprocAttr, ↓EU_rg, g4], by simp (disch := first|exact dis|fail) only [go_sem, simprocAttr, ↓EU_rg, g6], by simp (disch := first|exact dis|fail) only [go_sem, simprocAttr, ↓EU_rg, g7], by simp (disch := first|exact dis|fail) only [go_sem, simprocAttr, ↓EU_rg, g8], x2, hS, hT0, by omega⟩
 ·exact ⟨0, _, _, 0, 0, rfl, rfl, by omega, by simp (disch := first|exact dis|fail) only [go_sem, simprocAttr, ↓EU_rg], by simp (disch := first|exact dis|fail) only [go_sem, simprocAttr, ↓EU_rg], by simp (disch := first|exact dis|fail) only [go_sem, simprocAttr, ↓EU_rg]; all_goals rfl, by simp (disch := first|exact dis|fail) only [go_sem, simprocAttr, ↓EU_rg], by simp (disch := first|exact dis|fail) only [go_sem, simprocAttr, ↓EU_rg], by simp (disch := first|exact dis|fail) only [go_sem, simprocAttr, ↓EU_rg], by simp (disch := first|exact dis|fail) only [go_sem, simprocAttr, ↓EU_rg], by simp (disch := first|exact dis|fail) only [go_sem, simprocAttr, ↓EU_rg]; all_goals rfl, Ext.refl _, ⟨rfl, by decide, by decide, by decide, by decide⟩, Int.le_refl _, Int.le_refl _, Int.le_refl _⟩
 ·omega
 ·rintro ⟨q0, _⟩ ⟨tm, h2, hi, lo, rfl, rfl, g0, g4, g6, g7, g8, x2, hS, hT0, hT1⟩
  have hn2 := x2.le
  rw [next_push] at hn2
  have x02 := (x1.push (.cells (pntE lp) 0)).trans x2
  have q2 := q.ext x02
  have g2 := q2.gb
  have hlpc : h2.get h1.next = .cells (pntE lp) 0 := by rw [x2.old _ (by rw [next_push]; omega)]; exact get_push_new _ _
  simp (disch := first|exact dis|fail) only [go_sem, simprocAttr, ↓EU_rg, g0, g2]
  repeat refine WPo_ob ?_
  refine (LP_rule (fun m st => ∃ (i : Nat) (tm : Fr) (h3 : Heap), st = ⟨tm, h3, []⟩ ∧ m = l.length - i ∧ i ≤ l.length ∧ Fr.get tm 0 = ptr b 0 ∧ Fr.get tm 4 = ptr h1.next 0 ∧ Fr.get tm 6 = .int .u64 (totW l) ∧ Fr.get tm 7 = .int .u64 hi ∧ Fr.get tm 8 = .int .u64 lo ∧ Fr.get tm 14 = ptr h2.next 0 ∧ Fr.get tm 15 = .bool ((l.take i).foldl (dueStep (spread lp.v l) (totW l) lp.v) none).isSome ∧ Fr.get tm 72 = .slice a l.length c ∧ Fr.get tm 73 = .int .i64 l.length ∧ Fr.get tm 74 = .int .i64 i ∧ Ext h2 h3 ∧ h2.next < h3.next ∧ h3.get h2.next = .cells (bestE ((l.take i).foldl (dueStep (spread lp.v l) (totW l) lp.v) none)) 0)
   (fun q => ∃ tm h3, q.2 = ⟨tm, h3, []⟩ ∧ q.1 = .exit 2 ∧ Fr.get tm 0 = ptr b 0 ∧ Fr.get tm 14 = ptr h2.next 0 ∧ Fr.get tm 15 = .bool (l.foldl (dueStep (spread lp.v l) (totW l) lp.v) none).isSome ∧ Ext h2 h3 ∧ h3.get h2.next = .cells (bestE (l.foldl (dueStep (spread lp.v l) (totW l) lp.v) none)) 0) ?_ l.length _ _ ?_ ?_).mono ?_
  ·rintro m _ ⟨i, tm, h3, rfl, rfl, hil, g0, g4, g6, g7, g8, g14, g15, g72, g73, g74, x3, hn3, hB⟩
   simp (disch := first|exact dis|fail) only [go_sem, simprocAttr, ↓EU_rg, g73, g74]
   ((repeat refine WPo_ob ?_); (first | refine WPo_cond (fun b1 => ?_) (fun b1 => ?_) | refine WPo_gard (fun b1 => ?_) (fun b1 => ?_) | refine WPo_gardT (fun b1 => ?_) (fun b1 => ?_)) <;> (try simp only [Bool.not_eq_true', Bool.not_eq_false'] at b1))
   ·have b1' := b1
    simp only [decide_eq_true_eq] at b1'
    have hi' : i < l.length := by omega
    obtain ⟨x, hx⟩ : ∃ x, l[i]? = some x := ⟨_, List.getElem?_eq_getElem hi'⟩
    have hxm := List.mem_of_getElem? hx
    have hdx := hdist x hxm
    have hvx := hv x hxm
    have hlpc3 : h3.get h1.next = .cells (pntE lp) 0 := by rw [x3.old _ (by omega)]; exact hlpc
    obtain ⟨b', o, c', e, hb', hrd, hr⟩ := (q2.ow.sl.ext x3).at hx rfl
    cases e
    have hf := foldl_snoc (dueStep (spread lp.v l) (totW l) lp.v) none hx
    generalize hbo : (l.take i).foldl (dueStep (spread lp.v l) (totW l) lp.v) none = bo at *
    generalize hbn : (l.take (i + 1)).foldl (dueStep (spread lp.v l) (totW l) lp.v) none = bn at *
    have w3 : wrapF .i64 (x.v - lp.v) = x.v - lp.v := wrap64 (by omega)
    have w4 : wrapF .u64 (x.v - lp.v) = x.v - lp.v := wU64 (by omega)
    have hM := fun h => mul64_ev (x.v - lp.v) (totW l) h (by omega) (by omega)
    have hah := ahead_iff (d := (x.v - lp.v) * totW l) (h := (x.v - lp.v) * totW l / 18446744073709551616) (l := (x.v - lp.v) * totW l % 18446744073709551616) hS (by omega) (by omega)
    generalize hz : (x.v - lp.v) * totW l / 18446744073709551616 = zh at *
    generalize hz2 : (x.v - lp.v) * totW l % 18446744073709551616 = zl at *
    unfold pntE at hrd hlpc3
    unfold bestE pntE at hB
    have x34 := x3.push (.cells (pntE x) 0)
    unfold pntE at x34
    by_cases c0 : spread lp.v l < (x.v - lp.v) * totW l
    ·rw [dueStep_keep c0] at hf
     subst hf
     have dd : (decide (hi < zh) = true) ∨ (decide (hi < zh) = false ∧ decide (zh = hi) = true ∧ decide (lo < zl) = true) := by
      rcases hah.2 c0 with k | ⟨k1, k2⟩
      ·exact .inl (decide_eq_true k)
      ·exact .inr ⟨decide_eq_false (by omega), decide_eq_true k1, decide_eq_true k2⟩
     rcases dd with d1 | ⟨d1, d2, d3⟩
     ·simp (disch := first|exact dis|fail) only [go_sem, simprocAttr, ↓EU_rg, g0, g4, g6, g7, g8, g14, g15, g72, g73, g74, hrd, hlpc3, w3, w4, hM, d1]
      exact ⟨_, by omega, i + 1, _, _, rfl, rfl, by omega, by simp (disch := first|exact dis|fail) only [go_sem, simprocAttr, ↓EU_rg, g0], by simp (disch := first|exact dis|fail) only [go_sem, simprocAttr, ↓EU_rg, g4], by simp (disch := first|exact dis|fail) only [go_sem, simprocAttr, ↓EU_rg, g6], by simp (disch := first|exact dis|fail) only [go_sem, simprocAttr, ↓EU_rg, g7], by simp (disch := first|exact dis|fail) only [go_sem, simprocAttr, ↓EU_rg, g8], by simp (disch := first|exact dis|fail) only [go_sem, simprocAttr, ↓EU_rg, g14], by simp (disch := first|exact dis|fail) only [go_sem, simprocAttr, ↓EU_rg, g15]; rw [hbn], by simp (disch := first|exact dis|fail) only [go_sem, simprocAttr, ↓EU_rg, g72], by simp (disch := first|exact dis|fail) only [go_sem, simprocAttr, ↓EU_rg, g73], by simp (disch := first|exact dis|fail) only [go_sem, simprocAttr, ↓EU_rg], x34, by rw [next_push]; omega, by rw [get_push_old _ hn3, hB, hbn]; rfl⟩
     ·simp (disch := first|exact dis|fail) only [go_sem, simprocAttr, ↓EU_rg, g0, g4, g6, g7, g8, g14, g15, g72, g73, g74, hrd, hlpc3, w3, w4, hM, d1, d2, d3]
      exact ⟨_, by omega, i + 1, _, _, rfl, rfl, by omega, by simp (disch := first|exact dis|fail) only [go_sem, simprocAttr, ↓EU_rg, g0], by simp (disch := first|exact dis|fail) only [go_sem, simprocAttr, ↓EU_rg, g4], by simp (disch := first|exact dis|fail) only [go_sem, simprocAttr, ↓EU_rg, g6], by simp (disch := first|exact dis|fail) only [go_sem, simprocAttr, ↓EU_rg, g7], by simp (disch := first|exact dis|fail) only [go_sem, simprocAttr, ↓EU_rg, g8], by simp (disch := first|exact dis|fail) only [go_sem, simprocAttr, ↓EU_rg, g14], by simp (disch := first|exact dis|fail) only [go_sem, simprocAttr, ↓EU_rg, g15]; rw [hbn], by simp (disch := first|exact dis|fail) only [go_sem, simprocAttr, ↓EU_rg, g72], by simp (disch := first|exact dis|fail) only [go_sem, simprocAttr, ↓EU_rg, g73], by simp (disch := first|exact dis|fail) only [go_sem, simprocAttr, ↓EU_rg], x34, by rw [next_push]; omega, by rw [get_push_old _ hn3, hB, hbn]; rfl⟩
    ·have hna := fun e => c0 (hah.1 e)
     have d1 : decide (hi < zh) = false := decide_eq_false fun e => hna (.inl e)
     by_cases c2 : zh = hi
     ·have d2 : decide (zh = hi) = true := decide_eq_true c2
      have d3 : decide (lo < zl) = false := decide_eq_false fun e => hna (.inr ⟨c2, e⟩)
      cases bo with
      | none =>
       rw [dueStep_none c0] at hf
       subst hf
       have g15' : Fr.get tm 15 = .bool false := g15
       have hB' : h3.get h2.next = .cells [.int .i64 0, .int .i64 0, .int .i64 0, .int .i64 0] 0 := hB
       simp (disch := first|exact dis|fail) only [go_sem, simprocAttr, ↓EU_rg, g0, g4, g6, g7, g8, g14, g15', g72, g73, g74, hrd, hlpc3, hB', w3, w4, hM, d1, d2, d3]
       exact ⟨_, by omega, i + 1, _, _, rfl, rfl, by omega, by simp (disch := first|exact dis|fail) only [go_sem, simprocAttr, ↓EU_rg, g0], by simp (disch := first|exact dis|fail) only [go_sem, simprocAttr, ↓EU_rg, g4], by simp (disch := first|exact dis|fail) only [go_sem, simprocAttr, ↓EU_rg, g6], by simp (disch := first|exact dis|fail) only [go_sem, simprocAttr, ↓EU_rg, g7], by simp (disch := first|exact dis|fail) only [go_sem, simprocAttr, ↓EU_rg, g8], by simp (disch := first|exact dis|fail) only [go_sem, simprocAttr, ↓EU_rg, g14], by simp (disch := first|exact dis|fail) only [go_sem, simprocAttr, ↓EU_rg]; rw [hbn]; rfl, by simp (disch := first|exact dis|fail) only [go_sem, simprocAttr, ↓EU_rg, g72], by simp (disch := first|exact dis|fail) only [go_sem, simprocAttr, ↓EU_rg, g73], by simp (disch := first|exact dis|fail) only [go_sem, simprocAttr, ↓EU_rg], x34.set _ _ (Nat.le_refl _), by rw [next_set, next_push]; omega, by rw [get_set_same, hbn]; rfl⟩
      | some p0 =>
       rw [dueStep_some c0] at hf
       have g15' : Fr.get tm 15 = .bool true := g15
       have hB' : h3.get h2.next = .cells [.int .i64 p0.id, .int .i64 p0.w, .int .i64 p0.v, .int .i64 p0.day] 0 := hB
       by_cases c1 : x.day < p0.day
       ·rw [if_pos c1] at hf
        subst hf
        have d9 : decide (x.day < p0.day) = true := decide_eq_true c1
        simp (disch := first|exact dis|fail) only [go_sem, simprocAttr, ↓EU_rg, g0, g4, g6, g7, g8, g14, g15', g72, g73, g74, hrd, hlpc3, hB', w3, w4, hM, d1, d2, d3, d9]
        exact ⟨_, by omega, i + 1, _, _, rfl, rfl, by omega, by simp (disch := first|exact dis|fail) only [go_sem, simprocAttr, ↓EU_rg, g0], by simp (disch := first|exact dis|fail) only [go_sem, simprocAttr, ↓EU_rg, g4], by simp (disch := first|exact dis|fail) only [go_sem, simprocAttr, ↓EU_rg, g6], by simp (disch := first|exact dis|fail) only [go_sem, simprocAttr, ↓EU_rg, g7], by simp (disch := first|exact dis|fail) only [go_sem, simprocAttr, ↓EU_rg, g8], by simp (disch := first|exact dis|fail) only [go_sem, simprocAttr, ↓EU_rg, g14], by simp (disch := first|exact dis|fail) only [go_sem, simprocAttr, ↓EU_rg]; rw [hbn]; rfl, by simp (disch := first|exact dis|fail) only [go_sem, simprocAttr, ↓EU_rg, g72], by simp (disch := first|exact dis|fail) only [go_sem, simprocAttr, ↓EU_rg, g73], by simp (disch := first|exact dis|fail) only [go_sem, simprocAttr, ↓EU_rg], x34.set _ _ (Nat.le_refl _), by rw [next_set, next_push]; omega, by rw [get_set_same, hbn]; rfl⟩
       ·rw [if_neg c1] at hf
        subst hf
        have d9 : decide (x.day < p0.day) = false := decide_eq_false c1
        simp (disch := first|exact dis|fail) only [go_sem, simprocAttr, ↓EU_rg, g0, g4, g6, g7, g8, g14, g15', g72, g73, g74, hrd, hlpc3, hB', w3, w4, hM, d1, d2, d3, d9]
        exact ⟨_, by omega, i + 1, _, _, rfl, rfl, by omega, by simp (disch := first|exact dis|fail) only [go_sem, simprocAttr, ↓EU_rg, g0], by simp (disch := first|exact dis|fail) only [go_sem, simprocAttr, ↓EU_rg, g4], by simp (disch := first|exact dis|fail) only [go_sem, simprocAttr, ↓EU_rg, g6], by simp (disch := first|exact dis|fail) only [go_sem, simprocAttr, ↓EU_rg, g7], by simp (disch := first|exact dis|fail) only [go_sem, simprocAttr, ↓EU_rg, g8], by simp (disch := first|exact dis|fail) only [go_sem, simprocAttr, ↓EU_rg, g14], by simp (disch := first|exact dis|fail) only [go_sem, simprocAttr, ↓EU_rg, g15']; rw [hbn]; rfl, by simp (disch := first|exact dis|fail) only [go_sem, simprocAttr, ↓EU_rg, g72], by simp (disch := first|exact dis|fail) only [go_sem, simprocAttr, ↓EU_rg, g73], by simp (disch := first|exact dis|fail) only [go_sem, simprocAttr, ↓EU_rg], x34, by rw [next_push]; omega, by rw [get_push_old _ hn3, hB, hbn]; rfl⟩
     ·have d2 : decide (zh = hi) = false := decide_eq_false c2
      cases bo with
      | none =>
       rw [dueStep_none c0] at hf
       subst hf
       have g15' : Fr.get tm 15 = .bool false := g15
       have hB' : h3.get h2.next = .cells [.int .i64 0, .int .i64 0, .int .i64 0, .int .i64 0] 0 := hB
       simp (disch := first|exact dis|fail) only [go_sem, simprocAttr, ↓EU_rg, g0, g4, g6, g7, g8, g14, g15', g72, g73, g74, hrd, hlpc3, hB', w3, w4, hM, d1, d2]
       exact ⟨_, by omega, i + 1, _, _, rfl, rfl, by omega, by simp (disch := first|exact dis|fail) only [go_sem, simprocAttr, ↓EU_rg, g0], by simp (disch := first|exact dis|fail) only [go_sem, simprocAttr, ↓EU_rg, g4], by simp (disch := first|exact dis|fail) only [go_sem, simprocAttr, ↓EU_rg, g6], by simp (disch := first|exact dis|fail) only [go_sem, simprocAttr, ↓EU_rg, g7], by simp (disch := first|exact dis|fail) only [go_sem, simprocAttr, ↓EU_rg, g8], by simp (disch := first|exact dis|fail) only [go_sem, simprocAttr, ↓EU_rg, g14], by simp (disch := first|exact dis|fail) only [go_sem, simprocAttr, ↓EU_rg]; rw [hbn]; rfl, by simp (disch := first|exact dis|fail) only [go_sem, simprocAttr, ↓EU_rg, g72], by simp (disch := first|exact dis|fail) only [go_sem, simprocAttr, ↓EU_rg, g73], by simp (disch := first|exact dis|fail) only [go_sem, simprocAttr, ↓EU_rg], x34.set _ _ (Nat.le_refl _), by rw [next_set, next_push]; omega, by rw [get_set_same, hbn]; rfl⟩
      | some p0 =>
       rw [dueStep_some c0] at hf
       have g15' : Fr.get tm 15 = .bool true := g15
       have hB' : h3.get h2.next = .cells [.int .i64 p0.id, .int .i64 p0.w, .int .i64 p0.v, .int .i64 p0.day] 0 := hB
       by_cases c1 : x.day < p0.day
       ·rw [if_pos c1] at hf
        subst hf
        have d9 : decide (x.day < p0.day) = true := decide_eq_true c1
        simp (disch := first|exact dis|fail) only [go_sem, simprocAttr, ↓EU_rg, g0, g4, g6, g7, g8, g14, g15', g72, g73, g74, hrd, hlpc3, hB', w3, w4, hM, d1, d2, d9]
        exact ⟨_, by omega, i + 1, _, _, rfl, rfl, by omega, by simp (disch := first|exact dis|fail) only [go_sem, simprocAttr, ↓EU_rg, g0], by simp (disch := first|exact dis|fail) only [go_sem, simprocAttr, ↓EU_rg, g4], by simp (disch := first|exact dis|fail) only [go_sem, simprocAttr, ↓EU_rg, g6], by simp (disch := first|exact dis|fail) only [go_sem, simprocAttr, ↓EU_rg, g7], by simp (disch := first|exact dis|fail) only [go_sem, simprocAttr, ↓EU_rg, g8], by simp (disch := first|exact dis|fail) only [go_sem, simprocAttr, ↓EU_rg, g14], by simp (disch := first|exact dis|fail) only [go_sem, simprocAttr, ↓EU_rg]; rw [hbn]; rfl, by simp (disch := first|exact dis|fail) only [go_sem, simprocAttr, ↓EU_rg, g72], by simp (disch := first|exact dis|fail) only [go_sem, simprocAttr, ↓EU_rg, g73], by simp (disch := first|exact dis|fail) only [go_sem, simprocAttr, ↓EU_rg], x34.set _ _ (Nat.le_refl _), by rw [next_set, next_push]; omega, by rw [get_set_same, hbn]; rfl⟩
       ·rw [if_neg c1] at hf
        subst hf
        have d9 : decide (x.day < p0.day) = false := decide_eq_false c1
        simp (disch := first|exact dis|fail) only [go_sem, simprocAttr, ↓EU_rg, g0, g4, g6, g7, g8, g14, g15', g72, g73, g74, hrd, hlpc3, hB', w3, w4, hM, d1, d2, d9]
        exact ⟨_, by omega, i + 1, _, _, rfl, rfl, by omega, by simp (disch := first|exact dis|fail) only [go_sem, simprocAttr, ↓EU_rg, g0], by simp (disch := first|exact dis|fail) only [go_sem, simprocAttr, ↓EU_rg, g4], by simp (disch := first|exact dis|fail) only [go_sem, simprocAttr, ↓EU_rg, g6], by simp (disch := first|exact dis|fail) only [go_sem, simprocAttr, ↓EU_rg, g7], by simp (disch := first|exact dis|fail) only [go_sem, simprocAttr, ↓EU_rg, g8], by simp (disch := first|exact dis|fail) only [go_sem, simprocAttr, ↓EU_rg, g14], by simp (disch := first|exact dis|fail) only [go_sem, simprocAttr, ↓EU_rg, g15']; rw [hbn]; rfl, by simp (disch := first|exact dis|fail) only [go_sem, simprocAttr, ↓EU_rg, g72], by simp (disch := first|exact dis|fail) only [go_sem, simprocAttr, ↓EU_rg, g73], by simp (disch := first|exact dis|fail) only [go_sem, simprocAttr, ↓EU_rg], x34, by rw [next_push]; omega, by rw [get_push_old _ hn3, hB, hbn]; rfl⟩
   ·simp only [decide_eq_false_iff_not] at b1
    have : i = l.length := by omega
    subst this
    rw [List.take_length] at *
    simp (disch := first|exact dis|fail) only [go_sem, simprocAttr, ↓EU_rg]
    exact ⟨_, _, rfl, trivial, by simp (disch := first|exact dis|fail) only [go_sem, simprocAttr, ↓EU_rg, g0], by simp (disch := first|exact dis|fail) only [go_sem, simprocAttr, ↓EU_rg, g14], by simp (disch := first|exact dis|fail) only [go_sem, simprocAttr, ↓EU_rg, g15], x3, hB⟩
  ·exact ⟨0, _, _, rfl, rfl, by omega, by simp (disch := first|exact dis|fail) only [go_sem, simprocAttr, ↓EU_rg, g0], by simp (disch := first|exact dis|fail) only [go_sem, simprocAttr, ↓EU_rg, g4], by simp (disch := first|exact dis|fail) only [go_sem, simprocAttr, ↓EU_rg, g6], by simp (disch := first|exact dis|fail) only [go_sem, simprocAttr, ↓EU_rg, g7], by simp (disch := first|exact dis|fail) only [go_sem, simprocAttr, ↓EU_rg, g8], by simp (disch := first|exact dis|fail) only [go_sem, simprocAttr, ↓EU_rg], by simp (disch := first|exact dis|fail) only [go_sem, simprocAttr, ↓EU_rg]; all_goals rfl, by simp (disch := first|exact dis|fail) only [go_sem, simprocAttr, ↓EU_rg], by simp (disch := first|exact dis|fail) only [go_sem, simprocAttr, ↓EU_rg], by simp (disch := first|exact dis|fail) only [go_sem, simprocAttr, ↓EU_rg]; all_goals rfl, (Ext.refl _).push _, by rw [next_push]; omega, by rw [get_push_new]; rfl⟩
  ·omega
  ·rintro ⟨q0, _⟩ ⟨tm, h3, rfl, rfl, g0, g14, g15, x3, hB⟩
   have hT := lnTake_ev (q2.ext x3) ((l.foldl (dueStep (spread lp.v l) (totW l) lp.v) none).getD zP) (l.foldl (dueStep (spread lp.v l) (totW l) lp.v) none).isSome
   unfold bestE at hB
   unfold pntE at hB hT
   simp (disch := first|exact dis|fail) only [go_sem, simprocAttr, ↓EU_rg, g0, g14, g15, hB]
   repeat refine WPo_ob ?_
   refine hT.mono ?_
   rintro ⟨w, h4⟩ ⟨e, q4, m4⟩
   simp only at e q4 m4
   subst e
   simp (disch := first|exact dis|fail) only [go_sem, simprocAttr, ↓EU_rg]
   refine ⟨⟨_, _, rfl⟩, ((x02.trans x3).mod _).trans m4, _, q4, .inr ?_⟩
   unfold curR
   rw [pickI_2]
   unfold dueBest
   rw [← hlp]
   cases l.foldl (dueStep (spread lp.v l) (totW l) lp.v) none <;> rfl
end Go.Proofs.YtddgcakiceodgaaGreat.EV
