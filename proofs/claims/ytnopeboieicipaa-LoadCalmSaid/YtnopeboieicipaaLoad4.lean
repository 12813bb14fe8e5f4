/- Contracts: loads: move. No condition. -/
import Derived.Test.YtnopeboieicipaaLoad3
namespace Go.Proofs.Ytnopeboieicipaa.EV
open Go Go.Proofs
set_option linter.unusedVariables false
set_option linter.unusedSimpArgs false
set_option maxRecDepth 100000
set_option pp.deepTerms false
set_option pp.deepTerms.threshold 20
/-- where it may go -/
noncomputable def toN (ld : List Int) (t : Tk) : Option Nat := lstN ld (anN t.mask (2 ^ t.core.toNat)) 16
theorem iS_n : (none : Option Nat).isSome = false := rfl
theorem iS_s (c : Nat) : (some c : Option Nat).isSome = true := rfl
theorem lb_n : lb none = 0 := rfl
theorem lb_s (c : Nat) : lb (some c) = (c : Int) := rfl
/-- which of the first is to go, and where -/
noncomputable def mvN (ld : List Int) (l : List Tk) : Nat → Option (Nat × Nat)
  | 0 => none
  | i + 1 => match l[i]? with
    | none => mvN ld l i
    | some t => match toN ld t with
      | none => mvN ld l i
      | some c => if t.core = (topN ld : Int) ∧ ld.getD c 0 + t.w < ld.getD (topN ld) 0 ∧ (∀ p, mvN ld l i = some p → (l.getD p.1 t).w < t.w) then some (i, c) else mvN ld l i
theorem mvN_s (ld : List Int) (l : List Tk) (i : Nat) (t : Tk) (h : l[i]? = some t) : mvN ld l (i + 1) = match toN ld t with
      | none => mvN ld l i
      | some c => if t.core = (topN ld : Int) ∧ ld.getD c 0 + t.w < ld.getD (topN ld) 0 ∧ (∀ p, mvN ld l i = some p → (l.getD p.1 t).w < t.w) then some (i, c) else mvN ld l i := by
  conv => lhs; unfold mvN
  rw [h]
/-- what moves -/
theorem mvN_is (ld : List Int) (l : List Tk) : ∀ n a c, mvN ld l n = some (a, c) → a < n ∧ ∃ t, l[a]? = some t ∧ toN ld t = some c ∧ t.core = (topN ld : Int) ∧ ld.getD c 0 + t.w < ld.getD (topN ld) 0
  | n + 1, a, c, h => by
    unfold mvN at h
    have up : mvN ld l n = some (a, c) → a < n + 1 ∧ ∃ t, l[a]? = some t ∧ toN ld t = some c ∧ t.core = (topN ld : Int) ∧ ld.getD c 0 + t.w < ld.getD (topN ld) 0 := fun h => by
      obtain ⟨h1, h2⟩ := mvN_is ld l n a c h
      exact ⟨by omega, h2⟩
    split at h
    · exact up h
    · rename_i t ht
      split at h
      · exact up h
      · rename_i c' hc
        split at h
        · rename_i q
          cases h
          exact ⟨by omega, t, ht, hc, q.1, q.2.1⟩
        · exact up h
noncomputable def mA (o : Option (Nat × Nat)) : Int := match o with | some p => (p.1 : Int) | none => 0
noncomputable def mT (o : Option (Nat × Nat)) : Int := match o with | some p => (p.2 : Int) | none => 0
noncomputable def mvV (o : Option (Nat × Nat)) : Value := .tuple ⟨[.int .i64 (mA o), .int .i64 (mT o), .bool o.isSome]⟩
set_option maxHeartbeats 8000000 in
theorem move_ev (ld : List Int) (l : List Tk) (v w : Value) (h : Heap) (hs : SL (intE .i64) 1 h v ld) (ht : SL tkE 4 h w l) (hld : ∀ x ∈ ld, 0 ≤ x ∧ x ≤ 1099511627776) (hl : ∀ x ∈ l, TkOk ld.length x) (h0 : 0 < ld.length) (h1 : ld.length ≤ 16) (h2 : l.length < 900000) :
    Pu (EF Try.prog O0 17 [v, w] h) h (mvV (mvN ld l l.length)) := by
  unfold Pu
  rw [EF_body (O := O0) (by kernel_rfl) Try.func17 rfl (rs := [.tmp 4, .tmp 5, .tmp 6]) rfl (bad := [7]) (by kernel_rfl) _ _ (m := 80) rfl]
  have em := most_ev ld v h hs h0 (by omega)
  obtain ⟨b, o, cc, rfl, _, hr⟩ := hs.acc h0
  obtain ⟨a2, c2, hv⟩ := ht.val
  subst hv
  simp (maxSteps := 1000000) (disch := first | decide | omega | (simp only [go_sem]; first | done | omega)) only [go_sem, Int.reduceToNat, Nat.reduceMul, Nat.reduceAdd, Nat.reduceSub, ↓EU_region, ↓EU_draw, em]
  repeat refine WPo_ob ?_
  have htop : topN ld < ld.length := (List.getElem?_eq_some_iff.1 (topN_at ld h0).1).1
  refine (LP_rule (fun m st => ∃ (i : Nat) (tm : Fr) (h' : Heap), st = ⟨tm, h', []⟩ ∧ m = l.length - i ∧ i ≤ l.length ∧ Fr.get tm 0 = .slice (some { block := b, off := o }) ld.length cc ∧ Fr.get tm 1 = .slice a2 l.length c2 ∧ Fr.get tm 4 = .int .i64 (mA (mvN ld l i)) ∧ Fr.get tm 5 = .int .i64 (mT (mvN ld l i)) ∧ Fr.get tm 6 = .bool (mvN ld l i).isSome ∧ Fr.get tm 7 = .int .i64 (topN ld : Int) ∧ Fr.get tm 20 = .slice a2 l.length c2 ∧ Fr.get tm 21 = .int .i64 l.length ∧ Fr.get tm 22 = .int .i64 (i : Int) ∧ Ext h h')
    (fun q => ∃ (tm : Fr) (h' : Heap), q.2 = ⟨tm, h', []⟩ ∧ q.1 = .exit 0 ∧ Fr.get tm 4 = .int .i64 (mA (mvN ld l l.length)) ∧ Fr.get tm 5 = .int .i64 (mT (mvN ld l l.length)) ∧ Fr.get tm 6 = .bool (mvN ld l l.length).isSome ∧ Ext h h') ?_ l.length _ _ ?_ ?_).mono ?_
  · rintro m _ ⟨i, tm, h', rfl, rfl, hi, g0, g1, g4, g5, g6, g7, g20, g21, g22, xx⟩
    by_cases q : i < l.length
    · have d1 : decide ((i : Int) < l.length) = true := decide_eq_true (by omega)
      obtain ⟨x, hx⟩ : ∃ x, l[i]? = some x := ⟨_, List.getElem?_eq_getElem q⟩
      obtain ⟨b2, o2, c', e, hb2, hrd, _⟩ := (ht.ext xx).at hx rfl
      cases e
      obtain ⟨w1, w20, k0, k1, hM⟩ := hl x (List.mem_of_getElem? hx)
      have hwi : wrapF .i64 ((i : Int) + 1) = ((i + 1 : Nat) : Int) := by rw [wrap64 (by omega)]; rfl
      have hmv := mvN_s ld l i x hx
      obtain ⟨xi, xw, xc, xm⟩ := x
      simp only at w1 w20 k0 k1 hM
      obtain ⟨co, rfl⟩ := Int.eq_ofNat_of_zero_le k0
      simp (maxSteps := 1000000) (disch := first | decide | omega | (simp only [go_sem]; first | done | omega)) only [go_sem, Int.reduceToNat, Nat.reduceMul, Nat.reduceAdd, Nat.reduceSub, ↓EU_region, ↓EU_draw, g0, g20, g21, g22, d1, hrd, tkE]
      rw [EU_bad _ _ rfl, EC_tab (tab := [(false, none), (false, none), (false, (some (0, 2))), (false, none), (false, none), (true, none), (true, none), (false, none), (true, none), (false, none), (false, none), (false, none), (false, none), (false, none)]) (by kernel_rfl)]
      simp (maxSteps := 1000000) (disch := first | decide | omega | (simp only [go_sem]; first | done | omega)) only [go_sem, Int.reduceToNat, Nat.reduceMul, Nat.reduceAdd, Nat.reduceSub, ↓EU_region, ↓EU_draw, g0, tkE]
      repeat refine WPo_ob ?_
      have hof := of1_ev co (by omega) (.slice (some { block := h'.next + 1, off := 0 }) 1 3) ((h'.push (.cells [.int .i64 xi, .int .i64 xw, .int .i64 (co : Int), .int .u16 (xm : Int)] 0)).push (.cells [.int .i64 (co : Int)] 1)) (by
        have := (OW.lit i64_len (h'.push (.cells [.int .i64 xi, .int .i64 xw, .int .i64 (co : Int), .int .u16 (xm : Int)] 0)) [(co : Int)]).sl
        rw [next_push] at this
        exact this)
      rw [hof]
      have han : ∀ (P : Program) (t : TypeId) (x y : Operand), evBin P .andNot t x y (.int .u16 (xm : Int)) (.int .u16 ((2 ^ co : Nat) : Int)) = some (.int .u16 (anN xm (2 ^ co) : Int)) := fun P t x y => bin_anN P t x y xm (2 ^ co)
      have x2 : Ext h' ((h'.push (.cells [.int .i64 xi, .int .i64 xw, .int .i64 (co : Int), .int .u16 (xm : Int)] 0)).push (.cells [.int .i64 (co : Int)] 1)) := by repeat (first | exact Ext.refl _ | assumption | refine Ext.push ?_ _ | refine Ext.set ?_ _ _ (by first | omega | (simp only [next_push, next_set]; omega)))
      have c2' : ((h'.push (.cells [.int .i64 xi, .int .i64 xw, .int .i64 (co : Int), .int .u16 (xm : Int)] 0)).push (.cells [.int .i64 (co : Int)] 1)).get h'.next = .cells [.int .i64 xi, .int .i64 xw, .int .i64 (co : Int), .int .u16 (xm : Int)] 0 := by simp (maxSteps := 1000000) (disch := first | decide | omega | (simp only [go_sem]; first | done | omega)) only [go_sem, Int.reduceToNat, Nat.reduceMul, Nat.reduceAdd, Nat.reduceSub, ↓EU_region, ↓EU_draw]
      have n2' : h'.next < ((h'.push (.cells [.int .i64 xi, .int .i64 xw, .int .i64 (co : Int), .int .u16 (xm : Int)] 0)).push (.cells [.int .i64 (co : Int)] 1)).next := by rw [next_push, next_push]; omega
      simp (maxSteps := 1000000) (disch := first | decide | omega | (simp only [go_sem]; first | done | omega)) only [go_sem, Int.reduceToNat, Nat.reduceMul, Nat.reduceAdd, Nat.reduceSub, ↓EU_region, ↓EU_draw, han]
      repeat refine WPo_ob ?_
      refine (least_ev ld (anN xm (2 ^ co)) (anN_lt _ _) _ _ (hs.ext (xx.trans x2)) (by omega)).bind fun h3 x3 => ?_
      have c3 := (x3.old _ n2').trans c2'
      have x3' : Ext h h3 := (xx.trans x2).trans x3
      have htn : toN ld ⟨xi, xw, (co : Int), xm⟩ = lstN ld (anN xm (2 ^ co)) 16 := rfl
      rw [htn] at hmv
      cases ho : lstN ld (anN xm (2 ^ co)) 16 with
      | none =>
        rw [ho] at hmv
        have hm : mvN ld l (i + 1) = mvN ld l i := hmv
        rw [iS_n, lb_n]
        by_cases q2 : (co : Int) = topN ld
        · have d2 : decide ((co : Int) = topN ld) = true := decide_eq_true q2
          simp (maxSteps := 1000000) (disch := first | decide | omega | (simp only [go_sem]; first | done | omega)) only [go_sem, Int.reduceToNat, Nat.reduceMul, Nat.reduceAdd, Nat.reduceSub, ↓EU_region, ↓EU_draw, g0, g1, g6, g7, g22, c3, d2, hwi]
          exact ⟨l.length - (i + 1), by omega, i + 1, _, h3, rfl, rfl, by omega, by simp (maxSteps := 1000000) (disch := first | decide | omega | (simp only [go_sem]; first | done | omega)) only [go_sem, Int.reduceToNat, Nat.reduceMul, Nat.reduceAdd, Nat.reduceSub, ↓EU_region, ↓EU_draw, g0], by simp (maxSteps := 1000000) (disch := first | decide | omega | (simp only [go_sem]; first | done | omega)) only [go_sem, Int.reduceToNat, Nat.reduceMul, Nat.reduceAdd, Nat.reduceSub, ↓EU_region, ↓EU_draw, g1], by rw [hm]; simp (maxSteps := 1000000) (disch := first | decide | omega | (simp only [go_sem]; first | done | omega)) only [go_sem, Int.reduceToNat, Nat.reduceMul, Nat.reduceAdd, Nat.reduceSub, ↓EU_region, ↓EU_draw, g4]; try rfl, by rw [hm]; simp (maxSteps := 1000000) (disch := first | decide | omega | (simp only [go_sem]; first | done | omega)) only [go_sem, Int.reduceToNat, Nat.reduceMul, Nat.reduceAdd, Nat.reduceSub, ↓EU_region, ↓EU_draw, g5]; try rfl, by rw [hm]; simp (maxSteps := 1000000) (disch := first | decide | omega | (simp only [go_sem]; first | done | omega)) only [go_sem, Int.reduceToNat, Nat.reduceMul, Nat.reduceAdd, Nat.reduceSub, ↓EU_region, ↓EU_draw, g6]; try rfl, by simp (maxSteps := 1000000) (disch := first | decide | omega | (simp only [go_sem]; first | done | omega)) only [go_sem, Int.reduceToNat, Nat.reduceMul, Nat.reduceAdd, Nat.reduceSub, ↓EU_region, ↓EU_draw, g7], by simp (maxSteps := 1000000) (disch := first | decide | omega | (simp only [go_sem]; first | done | omega)) only [go_sem, Int.reduceToNat, Nat.reduceMul, Nat.reduceAdd, Nat.reduceSub, ↓EU_region, ↓EU_draw, g20], by simp (maxSteps := 1000000) (disch := first | decide | omega | (simp only [go_sem]; first | done | omega)) only [go_sem, Int.reduceToNat, Nat.reduceMul, Nat.reduceAdd, Nat.reduceSub, ↓EU_region, ↓EU_draw, g21], by simp (maxSteps := 1000000) (disch := first | decide | omega | (simp only [go_sem]; first | done | omega)) only [go_sem, Int.reduceToNat, Nat.reduceMul, Nat.reduceAdd, Nat.reduceSub, ↓EU_region, ↓EU_draw], x3'⟩
        · have d2 : decide ((co : Int) = topN ld) = false := decide_eq_false q2
          simp (maxSteps := 1000000) (disch := first | decide | omega | (simp only [go_sem]; first | done | omega)) only [go_sem, Int.reduceToNat, Nat.reduceMul, Nat.reduceAdd, Nat.reduceSub, ↓EU_region, ↓EU_draw, g0, g1, g6, g7, g22, c3, d2, hwi]
          exact ⟨l.length - (i + 1), by omega, i + 1, _, h3, rfl, rfl, by omega, by simp (maxSteps := 1000000) (disch := first | decide | omega | (simp only [go_sem]; first | done | omega)) only [go_sem, Int.reduceToNat, Nat.reduceMul, Nat.reduceAdd, Nat.reduceSub, ↓EU_region, ↓EU_draw, g0], by simp (maxSteps := 1000000) (disch := first | decide | omega | (simp only [go_sem]; first | done | omega)) only [go_sem, Int.reduceToNat, Nat.reduceMul, Nat.reduceAdd, Nat.reduceSub, ↓EU_region, ↓EU_draw, g1], by rw [hm]; simp (maxSteps := 1000000) (disch := first | decide | omega | (simp only [go_sem]; first | done | omega)) only [go_sem, Int.reduceToNat, Nat.reduceMul, Nat.reduceAdd, Nat.reduceSub, ↓EU_region, ↓EU_draw, g4]; try rfl, by rw [hm]; simp (maxSteps := 1000000) (disch := first | decide | omega | (simp only [go_sem]; first | done | omega)) only [go_sem, Int.reduceToNat, Nat.reduceMul, Nat.reduceAdd, Nat.reduceSub, ↓EU_region, ↓EU_draw, g5]; try rfl, by rw [hm]; simp (maxSteps := 1000000) (disch := first | decide | omega | (simp only [go_sem]; first | done | omega)) only [go_sem, Int.reduceToNat, Nat.reduceMul, Nat.reduceAdd, Nat.reduceSub, ↓EU_region, ↓EU_draw, g6]; try rfl, by simp (maxSteps := 1000000) (disch := first | decide | omega | (simp only [go_sem]; first | done | omega)) only [go_sem, Int.reduceToNat, Nat.reduceMul, Nat.reduceAdd, Nat.reduceSub, ↓EU_region, ↓EU_draw, g7], by simp (maxSteps := 1000000) (disch := first | decide | omega | (simp only [go_sem]; first | done | omega)) only [go_sem, Int.reduceToNat, Nat.reduceMul, Nat.reduceAdd, Nat.reduceSub, ↓EU_region, ↓EU_draw, g20], by simp (maxSteps := 1000000) (disch := first | decide | omega | (simp only [go_sem]; first | done | omega)) only [go_sem, Int.reduceToNat, Nat.reduceMul, Nat.reduceAdd, Nat.reduceSub, ↓EU_region, ↓EU_draw, g21], by simp (maxSteps := 1000000) (disch := first | decide | omega | (simp only [go_sem]; first | done | omega)) only [go_sem, Int.reduceToNat, Nat.reduceMul, Nat.reduceAdd, Nat.reduceSub, ↓EU_region, ↓EU_draw], x3'⟩
      | some c =>
        rw [ho] at hmv
        rw [iS_s, lb_s]
        by_cases q2 : (co : Int) = topN ld
        · have d2 : decide ((co : Int) = topN ld) = true := decide_eq_true q2
          obtain ⟨_, qc, _⟩ := lstN_lt ld _ 16 c ho
          obtain ⟨y, hy⟩ : ∃ x, ld[c]? = some x := ⟨_, List.getElem?_eq_getElem qc⟩
          obtain ⟨z, hz⟩ : ∃ x, ld[topN ld]? = some x := ⟨_, List.getElem?_eq_getElem htop⟩
          have hry := hr h3 x3' c _ hy
          have hrz := hr h3 x3' (topN ld) _ hz
          have by1 := hld y (List.mem_of_getElem? hy)
          have hwy : wrapF .i64 (y + xw) = y + xw := wrap64 (by omega)
          by_cases q3 : y + xw < z
          · have d3 : decide (y + xw < z) = true := decide_eq_true q3
            cases hp : mvN ld l i with
            | none =>
              have hm : mvN ld l (i + 1) = some (i, c) := by
                rw [hmv]
                dsimp only
                rw [if_pos ⟨q2, by rw [getD_of hy, getD_of hz]; exact q3, fun p e => by rw [hp] at e; cases e⟩]
              rw [hp] at g4 g5 g6
              unfold Option.isSome at g6
              simp (maxSteps := 1000000) (disch := first | decide | omega | (simp only [go_sem]; first | done | omega)) only [go_sem, Int.reduceToNat, Nat.reduceMul, Nat.reduceAdd, Nat.reduceSub, ↓EU_region, ↓EU_draw, g0, g1, g4, g6, g7, g22, c3, d2, d3, hry, hrz, hwy, hwi]
              exact ⟨l.length - (i + 1), by omega, i + 1, _, h3, rfl, rfl, by omega, by simp (maxSteps := 1000000) (disch := first | decide | omega | (simp only [go_sem]; first | done | omega)) only [go_sem, Int.reduceToNat, Nat.reduceMul, Nat.reduceAdd, Nat.reduceSub, ↓EU_region, ↓EU_draw, g0], by simp (maxSteps := 1000000) (disch := first | decide | omega | (simp only [go_sem]; first | done | omega)) only [go_sem, Int.reduceToNat, Nat.reduceMul, Nat.reduceAdd, Nat.reduceSub, ↓EU_region, ↓EU_draw, g1], by rw [hm]; simp (maxSteps := 1000000) (disch := first | decide | omega | (simp only [go_sem]; first | done | omega)) only [go_sem, Int.reduceToNat, Nat.reduceMul, Nat.reduceAdd, Nat.reduceSub, ↓EU_region, ↓EU_draw]; try rfl, by rw [hm]; simp (maxSteps := 1000000) (disch := first | decide | omega | (simp only [go_sem]; first | done | omega)) only [go_sem, Int.reduceToNat, Nat.reduceMul, Nat.reduceAdd, Nat.reduceSub, ↓EU_region, ↓EU_draw]; try rfl, by rw [hm]; simp (maxSteps := 1000000) (disch := first | decide | omega | (simp only [go_sem]; first | done | omega)) only [go_sem, Int.reduceToNat, Nat.reduceMul, Nat.reduceAdd, Nat.reduceSub, ↓EU_region, ↓EU_draw]; try rfl, by simp (maxSteps := 1000000) (disch := first | decide | omega | (simp only [go_sem]; first | done | omega)) only [go_sem, Int.reduceToNat, Nat.reduceMul, Nat.reduceAdd, Nat.reduceSub, ↓EU_region, ↓EU_draw, g7], by simp (maxSteps := 1000000) (disch := first | decide | omega | (simp only [go_sem]; first | done | omega)) only [go_sem, Int.reduceToNat, Nat.reduceMul, Nat.reduceAdd, Nat.reduceSub, ↓EU_region, ↓EU_draw, g20], by simp (maxSteps := 1000000) (disch := first | decide | omega | (simp only [go_sem]; first | done | omega)) only [go_sem, Int.reduceToNat, Nat.reduceMul, Nat.reduceAdd, Nat.reduceSub, ↓EU_region, ↓EU_draw, g21], by simp (maxSteps := 1000000) (disch := first | decide | omega | (simp only [go_sem]; first | done | omega)) only [go_sem, Int.reduceToNat, Nat.reduceMul, Nat.reduceAdd, Nat.reduceSub, ↓EU_region, ↓EU_draw], x3'⟩
            | some p =>
              obtain ⟨pa, pc⟩ := p
              obtain ⟨qa, t2, ht2, _⟩ := mvN_is ld l i pa pc hp
              obtain ⟨b9, o9, c9, e, _, _, hr9⟩ := (ht.ext x3').at ht2 rfl
              cases e
              have hr91 := hr9 1 _ rfl
              rw [hp] at g4 g5 g6
              unfold Option.isSome at g6
              unfold mA at g4
              dsimp only at g4
              by_cases q4 : t2.w < xw
              · have d4 : decide (t2.w < xw) = true := decide_eq_true q4
                have hm : mvN ld l (i + 1) = some (i, c) := by
                  rw [hmv]
                  dsimp only
                  rw [if_pos ⟨q2, by rw [getD_of hy, getD_of hz]; exact q3, fun p e => by rw [hp] at e; cases e; rw [getD_of ht2]; exact q4⟩]
                simp (maxSteps := 1000000) (disch := first | decide | omega | (simp only [go_sem]; first | done | omega)) only [go_sem, Int.reduceToNat, Nat.reduceMul, Nat.reduceAdd, Nat.reduceSub, ↓EU_region, ↓EU_draw, g0, g1, g4, g6, g7, g22, c3, d2, d3, hry, hrz, hr91, d4, hwy, hwi]
                exact ⟨l.length - (i + 1), by omega, i + 1, _, h3, rfl, rfl, by omega, by simp (maxSteps := 1000000) (disch := first | decide | omega | (simp only [go_sem]; first | done | omega)) only [go_sem, Int.reduceToNat, Nat.reduceMul, Nat.reduceAdd, Nat.reduceSub, ↓EU_region, ↓EU_draw, g0], by simp (maxSteps := 1000000) (disch := first | decide | omega | (simp only [go_sem]; first | done | omega)) only [go_sem, Int.reduceToNat, Nat.reduceMul, Nat.reduceAdd, Nat.reduceSub, ↓EU_region, ↓EU_draw, g1], by rw [hm]; simp (maxSteps := 1000000) (disch := first | decide | omega | (simp only [go_sem]; first | done | omega)) only [go_sem, Int.reduceToNat, Nat.reduceMul, Nat.reduceAdd, Nat.reduceSub, ↓EU_region, ↓EU_draw]; try rfl, by rw [hm]; simp (maxSteps := 1000000) (disch := first | decide | omega | (simp only [go_sem]; first | done | omega)) only [go_sem, Int.reduceToNat, Nat.reduceMul, Nat.reduceAdd, Nat.reduceSub, ↓EU_region, ↓EU_draw]; try rfl, by rw [hm]; simp (maxSteps := 1000000) (disch := first | decide | omega | (simp only [go_sem]; first | done | omega)) only [go_sem, Int.reduceToNat, Nat.reduceMul, Nat.reduceAdd, Nat.reduceSub, ↓EU_region, ↓EU_draw]; try rfl, by simp (maxSteps := 1000000) (disch := first | decide | omega | (simp only [go_sem]; first | done | omega)) only [go_sem, Int.reduceToNat, Nat.reduceMul, Nat.reduceAdd, Nat.reduceSub, ↓EU_region, ↓EU_draw, g7], by simp (maxSteps := 1000000) (disch := first | decide | omega | (simp only [go_sem]; first | done | omega)) only [go_sem, Int.reduceToNat, Nat.reduceMul, Nat.reduceAdd, Nat.reduceSub, ↓EU_region, ↓EU_draw, g20], by simp (maxSteps := 1000000) (disch := first | decide | omega | (simp only [go_sem]; first | done | omega)) only [go_sem, Int.reduceToNat, Nat.reduceMul, Nat.reduceAdd, Nat.reduceSub, ↓EU_region, ↓EU_draw, g21], by simp (maxSteps := 1000000) (disch := first | decide | omega | (simp only [go_sem]; first | done | omega)) only [go_sem, Int.reduceToNat, Nat.reduceMul, Nat.reduceAdd, Nat.reduceSub, ↓EU_region, ↓EU_draw], x3'⟩
              · have d4 : decide (t2.w < xw) = false := decide_eq_false q4
                have hm : mvN ld l (i + 1) = some (pa, pc) := by
                  rw [hmv]
                  dsimp only
                  rw [if_neg fun h => q4 (by have := h.2.2 _ hp; rwa [getD_of ht2] at this), hp]
                simp (maxSteps := 1000000) (disch := first | decide | omega | (simp only [go_sem]; first | done | omega)) only [go_sem, Int.reduceToNat, Nat.reduceMul, Nat.reduceAdd, Nat.reduceSub, ↓EU_region, ↓EU_draw, g0, g1, g4, g6, g7, g22, c3, d2, d3, hry, hrz, hr91, d4, hwy, hwi]
                exact ⟨l.length - (i + 1), by omega, i + 1, _, h3, rfl, rfl, by omega, by simp (maxSteps := 1000000) (disch := first | decide | omega | (simp only [go_sem]; first | done | omega)) only [go_sem, Int.reduceToNat, Nat.reduceMul, Nat.reduceAdd, Nat.reduceSub, ↓EU_region, ↓EU_draw, g0], by simp (maxSteps := 1000000) (disch := first | decide | omega | (simp only [go_sem]; first | done | omega)) only [go_sem, Int.reduceToNat, Nat.reduceMul, Nat.reduceAdd, Nat.reduceSub, ↓EU_region, ↓EU_draw, g1], by rw [hm]; simp (maxSteps := 1000000) (disch := first | decide | omega | (simp only [go_sem]; first | done | omega)) only [go_sem, Int.reduceToNat, Nat.reduceMul, Nat.reduceAdd, Nat.reduceSub, ↓EU_region, ↓EU_draw, g4]; try rfl, by rw [hm]; simp (maxSteps := 1000000) (disch := first | decide | omega | (simp only [go_sem]; first | done | omega)) only [go_sem, Int.reduceToNat, Nat.reduceMul, Nat.reduceAdd, Nat.reduceSub, ↓EU_region, ↓EU_draw, g5]; try rfl, by rw [hm]; simp (maxSteps := 1000000) (disch := first | decide | omega | (simp only [go_sem]; first | done | omega)) only [go_sem, Int.reduceToNat, Nat.reduceMul, Nat.reduceAdd, Nat.reduceSub, ↓EU_region, ↓EU_draw, g6]; try rfl, by simp (maxSteps := 1000000) (disch := first | decide | omega | (simp only [go_sem]; first | done | omega)) only [go_sem, Int.reduceToNat, Nat.reduceMul, Nat.reduceAdd, Nat.reduceSub, ↓EU_region, ↓EU_draw, g7], by simp (maxSteps := 1000000) (disch := first | decide | omega | (simp only [go_sem]; first | done | omega)) only [go_sem, Int.reduceToNat, Nat.reduceMul, Nat.reduceAdd, Nat.reduceSub, ↓EU_region, ↓EU_draw, g20], by simp (maxSteps := 1000000) (disch := first | decide | omega | (simp only [go_sem]; first | done | omega)) only [go_sem, Int.reduceToNat, Nat.reduceMul, Nat.reduceAdd, Nat.reduceSub, ↓EU_region, ↓EU_draw, g21], by simp (maxSteps := 1000000) (disch := first | decide | omega | (simp only [go_sem]; first | done | omega)) only [go_sem, Int.reduceToNat, Nat.reduceMul, Nat.reduceAdd, Nat.reduceSub, ↓EU_region, ↓EU_draw], x3'⟩
          · have d3 : decide (y + xw < z) = false := decide_eq_false q3
            have hm : mvN ld l (i + 1) = mvN ld l i := by
              rw [hmv]
              dsimp only
              rw [if_neg fun h => q3 (by have := h.2.1; rwa [getD_of hy, getD_of hz] at this)]
            simp (maxSteps := 1000000) (disch := first | decide | omega | (simp only [go_sem]; first | done | omega)) only [go_sem, Int.reduceToNat, Nat.reduceMul, Nat.reduceAdd, Nat.reduceSub, ↓EU_region, ↓EU_draw, g0, g1, g6, g7, g22, c3, d2, d3, hry, hrz, hwy, hwi]
            exact ⟨l.length - (i + 1), by omega, i + 1, _, h3, rfl, rfl, by omega, by simp (maxSteps := 1000000) (disch := first | decide | omega | (simp only [go_sem]; first | done | omega)) only [go_sem, Int.reduceToNat, Nat.reduceMul, Nat.reduceAdd, Nat.reduceSub, ↓EU_region, ↓EU_draw, g0], by simp (maxSteps := 1000000) (disch := first | decide | omega | (simp only [go_sem]; first | done | omega)) only [go_sem, Int.reduceToNat, Nat.reduceMul, Nat.reduceAdd, Nat.reduceSub, ↓EU_region, ↓EU_draw, g1], by rw [hm]; simp (maxSteps := 1000000) (disch := first | decide | omega | (simp only [go_sem]; first | done | omega)) only [go_sem, Int.reduceToNat, Nat.reduceMul, Nat.reduceAdd, Nat.reduceSub, ↓EU_region, ↓EU_draw, g4]; try rfl, by rw [hm]; simp (maxSteps := 1000000) (disch := first | decide | omega | (simp only [go_sem]; first | done | omega)) only [go_sem, Int.reduceToNat, Nat.reduceMul, Nat.reduceAdd, Nat.reduceSub, ↓EU_region, ↓EU_draw, g5]; try rfl, by rw [hm]; simp (maxSteps := 1000000) (disch := first | decide | omega | (simp only [go_sem]; first | done | omega)) only [go_sem, Int.reduceToNat, Nat.reduceMul, Nat.reduceAdd, Nat.reduceSub, ↓EU_region, ↓EU_draw, g6]; try rfl, by simp (maxSteps := 1000000) (disch := first | decide | omega | (simp only [go_sem]; first | done | omega)) only [go_sem, Int.reduceToNat, Nat.reduceMul, Nat.reduceAdd, Nat.reduceSub, ↓EU_region, ↓EU_draw, g7], by simp (maxSteps := 1000000) (disch := first | decide | omega | (simp only [go_sem]; first | done | omega)) only [go_sem, Int.reduceToNat, Nat.reduceMul, Nat.reduceAdd, Nat.reduceSub, ↓EU_region, ↓EU_draw, g20], by simp (maxSteps := 1000000) (disch := first | decide | omega | (simp only [go_sem]; first | done | omega)) only [go_sem, Int.reduceToNat, Nat.reduceMul, Nat.reduceAdd, Nat.reduceSub, ↓EU_region, ↓EU_draw, g21], by simp (maxSteps := 1000000) (disch := first | decide | omega | (simp only [go_sem]; first | done | omega)) only [go_sem, Int.reduceToNat, Nat.reduceMul, Nat.reduceAdd, Nat.reduceSub, ↓EU_region, ↓EU_draw], x3'⟩
        · have d2 : decide ((co : Int) = topN ld) = false := decide_eq_false q2
          have hm : mvN ld l (i + 1) = mvN ld l i := by
            rw [hmv]
            dsimp only
            rw [if_neg fun h => q2 h.1]
          simp (maxSteps := 1000000) (disch := first | decide | omega | (simp only [go_sem]; first | done | omega)) only [go_sem, Int.reduceToNat, Nat.reduceMul, Nat.reduceAdd, Nat.reduceSub, ↓EU_region, ↓EU_draw, g0, g1, g6, g7, g22, c3, d2, hwi]
          exact ⟨l.length - (i + 1), by omega, i + 1, _, h3, rfl, rfl, by omega, by simp (maxSteps := 1000000) (disch := first | decide | omega | (simp only [go_sem]; first | done | omega)) only [go_sem, Int.reduceToNat, Nat.reduceMul, Nat.reduceAdd, Nat.reduceSub, ↓EU_region, ↓EU_draw, g0], by simp (maxSteps := 1000000) (disch := first | decide | omega | (simp only [go_sem]; first | done | omega)) only [go_sem, Int.reduceToNat, Nat.reduceMul, Nat.reduceAdd, Nat.reduceSub, ↓EU_region, ↓EU_draw, g1], by rw [hm]; simp (maxSteps := 1000000) (disch := first | decide | omega | (simp only [go_sem]; first | done | omega)) only [go_sem, Int.reduceToNat, Nat.reduceMul, Nat.reduceAdd, Nat.reduceSub, ↓EU_region, ↓EU_draw, g4]; try rfl, by rw [hm]; simp (maxSteps := 1000000) (disch := first | decide | omega | (simp only [go_sem]; first | done | omega)) only [go_sem, Int.reduceToNat, Nat.reduceMul, Nat.reduceAdd, Nat.reduceSub, ↓EU_region, ↓EU_draw, g5]; try rfl, by rw [hm]; simp (maxSteps := 1000000) (disch := first | decide | omega | (simp only [go_sem]; first | done | omega)) only [go_sem, Int.reduceToNat, Nat.reduceMul, Nat.reduceAdd, Nat.reduceSub, ↓EU_region, ↓EU_draw, g6]; try rfl, by simp (maxSteps := 1000000) (disch := first | decide | omega | (simp only [go_sem]; first | done | omega)) only [go_sem, Int.reduceToNat, Nat.reduceMul, Nat.reduceAdd, Nat.reduceSub, ↓EU_region, ↓EU_draw, g7], by simp (maxSteps := 1000000) (disch := first | decide | omega | (simp only [go_sem]; first | done | omega)) only [go_sem, Int.reduceToNat, Nat.reduceMul, Nat.reduceAdd, Nat.reduceSub, ↓EU_region, ↓EU_draw, g20], by simp (maxSteps := 1000000) (disch := first | decide | omega | (simp only [go_sem]; first | done | omega)) only [go_sem, Int.reduceToNat, Nat.reduceMul, Nat.reduceAdd, Nat.reduceSub, ↓EU_region, ↓EU_draw, g21], by simp (maxSteps := 1000000) (disch := first | decide | omega | (simp only [go_sem]; first | done | omega)) only [go_sem, Int.reduceToNat, Nat.reduceMul, Nat.reduceAdd, Nat.reduceSub, ↓EU_region, ↓EU_draw], x3'⟩
    · have d1 : decide ((i : Int) < l.length) = false := decide_eq_false (by omega)
      obtain rfl : i = l.length := by omega
      simp (maxSteps := 1000000) (disch := first | decide | omega | (simp only [go_sem]; first | done | omega)) only [go_sem, Int.reduceToNat, Nat.reduceMul, Nat.reduceAdd, Nat.reduceSub, ↓EU_region, ↓EU_draw, g21, g22, d1]
      exact ⟨_, h', rfl, trivial, by simp (maxSteps := 1000000) (disch := first | decide | omega | (simp only [go_sem]; first | done | omega)) only [go_sem, Int.reduceToNat, Nat.reduceMul, Nat.reduceAdd, Nat.reduceSub, ↓EU_region, ↓EU_draw, g4], by simp (maxSteps := 1000000) (disch := first | decide | omega | (simp only [go_sem]; first | done | omega)) only [go_sem, Int.reduceToNat, Nat.reduceMul, Nat.reduceAdd, Nat.reduceSub, ↓EU_region, ↓EU_draw, g5], by simp (maxSteps := 1000000) (disch := first | decide | omega | (simp only [go_sem]; first | done | omega)) only [go_sem, Int.reduceToNat, Nat.reduceMul, Nat.reduceAdd, Nat.reduceSub, ↓EU_region, ↓EU_draw, g6], xx⟩
  · exact ⟨0, _, h, rfl, rfl, by omega, by simp (maxSteps := 1000000) (disch := first | decide | omega | (simp only [go_sem]; first | done | omega)) only [go_sem, Int.reduceToNat, Nat.reduceMul, Nat.reduceAdd, Nat.reduceSub, ↓EU_region, ↓EU_draw], by simp (maxSteps := 1000000) (disch := first | decide | omega | (simp only [go_sem]; first | done | omega)) only [go_sem, Int.reduceToNat, Nat.reduceMul, Nat.reduceAdd, Nat.reduceSub, ↓EU_region, ↓EU_draw], by simp (maxSteps := 1000000) (disch := first | decide | omega | (simp only [go_sem]; first | done | omega)) only [go_sem, Int.reduceToNat, Nat.reduceMul, Nat.reduceAdd, Nat.reduceSub, ↓EU_region, ↓EU_draw]; rfl, by simp (maxSteps := 1000000) (disch := first | decide | omega | (simp only [go_sem]; first | done | omega)) only [go_sem, Int.reduceToNat, Nat.reduceMul, Nat.reduceAdd, Nat.reduceSub, ↓EU_region, ↓EU_draw]; rfl, by simp (maxSteps := 1000000) (disch := first | decide | omega | (simp only [go_sem]; first | done | omega)) only [go_sem, Int.reduceToNat, Nat.reduceMul, Nat.reduceAdd, Nat.reduceSub, ↓EU_region, ↓EU_draw]; rfl, by simp (maxSteps := 1000000) (disch := first | decide | omega | (simp only [go_sem]; first | done | omega)) only [go_sem, Int.reduceToNat, Nat.reduceMul, Nat.reduceAdd, Nat.reduceSub, ↓EU_region, ↓EU_draw], by simp (maxSteps := 1000000) (disch := first | decide | omega | (simp only [go_sem]; first | done | omega)) only [go_sem, Int.reduceToNat, Nat.reduceMul, Nat.reduceAdd, Nat.reduceSub, ↓EU_region, ↓EU_draw], by simp (maxSteps := 1000000) (disch := first | decide | omega | (simp only [go_sem]; first | done | omega)) only [go_sem, Int.reduceToNat, Nat.reduceMul, Nat.reduceAdd, Nat.reduceSub, ↓EU_region, ↓EU_draw], by simp (maxSteps := 1000000) (disch := first | decide | omega | (simp only [go_sem]; first | done | omega)) only [go_sem, Int.reduceToNat, Nat.reduceMul, Nat.reduceAdd, Nat.reduceSub, ↓EU_region, ↓EU_draw]; rfl, Ext.refl _⟩
  · omega
  · rintro ⟨_, _⟩ ⟨tm, h', rfl, rfl, g4, g5, g6, xx⟩
    simp (maxSteps := 1000000) (disch := first | decide | omega | (simp only [go_sem]; first | done | omega)) only [go_sem, Int.reduceToNat, Nat.reduceMul, Nat.reduceAdd, Nat.reduceSub, ↓EU_region, ↓EU_draw, g4, g5, g6]
    exact ⟨rfl, xx⟩
end Go.Proofs.Ytnopeboieicipaa.EV
