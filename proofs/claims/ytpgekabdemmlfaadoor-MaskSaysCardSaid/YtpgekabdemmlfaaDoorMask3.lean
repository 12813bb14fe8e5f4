/- Contracts: masks: From, Around, Of, Len, ints. No condition. -/
import Derived.Test.YtpgekabdemmlfaaDoorMask1
namespace Go.Proofs.YtpgekabdemmlfaaDoor.EV
open Go Go.Proofs
set_option linter.unusedVariables false
set_option linter.unusedSimpArgs false
set_option maxRecDepth 100000
set_option pp.deepTerms false
set_option pp.deepTerms.threshold 20
theorem setP2 (n : Nat) (t u : Tmp) (v w : Value) (tm : Fr) : setParams n ([t, u].zip [v, w]) tm = Fr.put n (Fr.put n tm t v) u w := rfl
noncomputable def clampN (c : Int) : Nat := if c < 0 then 0 else if c > 15 then 15 else c.toNat
theorem clampN_lt (c : Int) : clampN c < 16 := by
  unfold clampN
  split
  · omega
  · split <;> omega
noncomputable def arN (M f n : Nat) : List Nat := ((List.range n).map fun i => (f + i) % 16).filter (hasN M)
theorem arN_t {M f i : Nat} (h : hasN M ((f + i) % 16) = true) : arN M f (i + 1) = arN M f i ++ [(f + i) % 16] := by
  unfold arN
  rw [List.range_succ, List.map_append, List.filter_append]; simp [h]
theorem arN_f {M f i : Nat} (h : hasN M ((f + i) % 16) = false) : arN M f (i + 1) = arN M f i := by
  unfold arN
  rw [List.range_succ, List.map_append, List.filter_append]; simp [h]
theorem arN_len (M f i : Nat) : (arN M f i).length ≤ i := by
  have := List.length_filter_le (hasN M) ((List.range i).map fun i => (f + i) % 16)
  rw [List.length_map, List.length_range] at this
  exact this
noncomputable def arI (M f i : Nat) : List Int := (arN M f i).map fun (n : Nat) => (n : Int)
theorem arI_t {M f i : Nat} (h : hasN M ((f + i) % 16) = true) : arI M f (i + 1) = arI M f i ++ [(((f + i) % 16 : Nat) : Int)] := by
  unfold arI
  rw [arN_t h, List.map_append]; rfl
theorem arI_f {M f i : Nat} (h : hasN M ((f + i) % 16) = false) : arI M f (i + 1) = arI M f i := by
  unfold arI
  rw [arN_f h]
theorem arI_len (M f i : Nat) : (arI M f i).length ≤ i := by
  unfold arI
  rw [List.length_map]
  exact arN_len M f i
theorem from_ev (M : Nat) (c : Int) (h : Heap) : EF Tryd.prog O0 23 [.int .u16 (M : Int), .int .i64 c] h = some (.func (.func 32) ⟨[]⟩ ⟨[ptr (h.next + 1) 0, ptr h.next 0]⟩, ((h.push (.cells [.int .u16 (M : Int)] 0)).push (.cells [.int .i64 0] 0)).set (h.next + 1) (.cells [.int .i64 (clampN c : Int)] 0)) := by
  have : WPo (EF Tryd.prog O0 23 [.int .u16 (M : Int), .int .i64 c] h) fun q => q = (.func (.func 32) ⟨[]⟩ ⟨[ptr (h.next + 1) 0, ptr h.next 0]⟩, ((h.push (.cells [.int .u16 (M : Int)] 0)).push (.cells [.int .i64 0] 0)).set (h.next + 1) (.cells [.int .i64 (clampN c : Int)] 0)) := by
    have e1 : (if (15 : Int) < (if (0 : Int) > c then 0 else c) then (15 : Int) else (if (0 : Int) > c then 0 else c)) = (clampN c : Int) := by
      unfold clampN
      split <;> split <;> (repeat' split) <;> omega
    rw [EF_body (O := O0) (by kernel_rfl) Tryd.func23 rfl (rs := [.tmp 4]) rfl (bad := []) (by kernel_rfl) _ _ (m := 10) rfl]
    simp (maxSteps := 1000000) (disch := first | decide | omega | (simp only [go_sem]; first | done | omega)) only [go_sem, Int.reduceToNat, Nat.reduceMul, Nat.reduceAdd, Nat.reduceSub, ↓EU_region, ↓EU_draw, e1]
  obtain ⟨q, e, rfl⟩ := this
  exact e
set_option maxHeartbeats 2000000 in
theorem from1_ev (M : Nat) (hM : M < 65536) (f : Nat) (hf : f < 16) (A F : Nat) (yv : Value) (I : Nat → Heap → Prop) (D : Heap → Prop) (h0 : Heap)
    (hI : ∀ i h, I i h → h.get A = .cells [.int .u16 (M : Int)] 0 ∧ h.get F = .cells [.int .i64 (f : Int)] 0) (h00 : I 0 h0)
    (hs : ∀ i h, i < 16 → hasN M ((f + i) % 16) = false → I i h → I (i + 1) h)
    (hy : ∀ i (k : Nat) h, i < 16 → hasN M ((f + i) % 16) = true → I i h → WPo (CALLV Tryd.prog O0 h [.int .i64 (k : Int), .int .i64 (((f + i) % 16 : Nat) : Int)] yv) fun q => (q.1 = .bool true ∧ I (i + 1) q.2) ∨ (q.1 = .bool false ∧ D q.2)) :
    WPo (EF Tryd.prog O0 32 [yv, ptr F 0, ptr A 0] h0) fun q => I 16 q.2 ∨ D q.2 := by
  rw [EF_body (O := O0) (by kernel_rfl) Tryd.func32 rfl (rs := []) rfl (bad := []) (by kernel_rfl) _ _ (m := 26) rfl]
  simp (maxSteps := 1000000) (disch := first | decide | omega | (simp only [go_sem]; first | done | omega)) only [go_sem, Int.reduceToNat, Nat.reduceMul, Nat.reduceAdd, Nat.reduceSub, ↓EU_region, ↓EU_draw]
  repeat refine WPo_ob ?_
  refine (LP_rule (fun m st => ∃ (i k : Nat) (tm : Fr) (h' : Heap), st = ⟨tm, h', []⟩ ∧ m = 16 - i ∧ i ≤ 16 ∧ k ≤ i ∧ Fr.get tm 0 = yv ∧ Fr.get tm 1 = ptr F 0 ∧ Fr.get tm 2 = ptr A 0 ∧ Fr.get tm 4 = .int .i64 (k : Int) ∧ Fr.get tm 7 = .int .i64 (i : Int) ∧ I i h')
    (fun q => ∃ tm h', q.2 = ⟨tm, h', []⟩ ∧ ((q.1 = .exit 0 ∧ I 16 h') ∨ (q.1 = .ret ∧ D h'))) ?_ 16 _ _ ?_ ?_).mono ?_
  · rintro m _ ⟨i, k, tm, h', rfl, rfl, hi, hk, g0, g1, g2, g4, g7, ii⟩
    obtain ⟨hg, hgF⟩ := hI i h' ii
    by_cases q : i < 16
    · have d : decide ((i : Int) < 16) = true := decide_eq_true (by omega)
      have hwi : wrapF .i64 ((i : Int) + 1) = ((i + 1 : Nat) : Int) := by rw [wrap64 (by omega)]; rfl
      have hwk : wrapF .i64 ((k : Int) + 1) = ((k + 1 : Nat) : Int) := by rw [wrap64 (by omega)]; rfl
      have hwf : wrapF .i64 ((f : Int) + (i : Int)) = ((f + i : Nat) : Int) := by rw [wrap64 (by omega)]; omega
      have hrem : ∀ (P : Program) (t : TypeId) (y z : Operand), evBin P .rem t y z (.int .i64 ((f + i : Nat) : Int)) (.int .i64 16) = some (.int .i64 (((f + i) % 16 : Nat) : Int)) := fun P t y z => by
        rw [bin_rem0 P t y z _ _ _ (by decide)]
        rfl
      obtain ⟨j, hj⟩ : ∃ j, j = (f + i) % 16 := ⟨_, rfl⟩
      have hj16 : j < 16 := by omega
      rw [← hj] at hrem
      have d1 : decide ((j : Int) < 16) = true := decide_eq_true (by omega)
      have d0 : decide ((0 : Int) ≤ j) = true := decide_eq_true (by omega)
      have hh := has_ev M hM (j : Int) h'
      unfold hasI at hh
      rw [d1, d0, toNat_nat, Bool.true_and, Bool.true_and] at hh
      cases hb : hasN M j with
      | false =>
        rw [hb] at hh
        simp (maxSteps := 1000000) (disch := first | decide | omega | (simp only [go_sem]; first | done | omega)) only [go_sem, Int.reduceToNat, Nat.reduceMul, Nat.reduceAdd, Nat.reduceSub, ↓EU_region, ↓EU_draw, g0, g1, g2, g4, g7, hg, hgF, d, hwf, hrem, hh, hwi]
        exact ⟨16 - (i + 1), by omega, i + 1, k, _, h', rfl, rfl, by omega, by omega, by simp (maxSteps := 1000000) (disch := first | decide | omega | (simp only [go_sem]; first | done | omega)) only [go_sem, Int.reduceToNat, Nat.reduceMul, Nat.reduceAdd, Nat.reduceSub, ↓EU_region, ↓EU_draw, g0], by simp (maxSteps := 1000000) (disch := first | decide | omega | (simp only [go_sem]; first | done | omega)) only [go_sem, Int.reduceToNat, Nat.reduceMul, Nat.reduceAdd, Nat.reduceSub, ↓EU_region, ↓EU_draw, g1], by simp (maxSteps := 1000000) (disch := first | decide | omega | (simp only [go_sem]; first | done | omega)) only [go_sem, Int.reduceToNat, Nat.reduceMul, Nat.reduceAdd, Nat.reduceSub, ↓EU_region, ↓EU_draw, g2], by simp (maxSteps := 1000000) (disch := first | decide | omega | (simp only [go_sem]; first | done | omega)) only [go_sem, Int.reduceToNat, Nat.reduceMul, Nat.reduceAdd, Nat.reduceSub, ↓EU_region, ↓EU_draw, g4], by simp (maxSteps := 1000000) (disch := first | decide | omega | (simp only [go_sem]; first | done | omega)) only [go_sem, Int.reduceToNat, Nat.reduceMul, Nat.reduceAdd, Nat.reduceSub, ↓EU_region, ↓EU_draw], hs i h' q (by rw [← hj]; exact hb) ii⟩
      | true =>
        rw [hb] at hh
        simp (maxSteps := 1000000) (disch := first | decide | omega | (simp only [go_sem]; first | done | omega)) only [go_sem, Int.reduceToNat, Nat.reduceMul, Nat.reduceAdd, Nat.reduceSub, ↓EU_region, ↓EU_draw, g0, g1, g2, g4, g7, hg, hgF, d, hwf, hrem, hh]
        repeat refine WPo_ob ?_
        have hyy := hy i k h' q (by rw [← hj]; exact hb) ii
        rw [← hj] at hyy
        refine hyy.mono ?_
        rintro ⟨v, h1⟩ (⟨e, r⟩ | ⟨e, r⟩)
        · simp only at e r
          subst e
          simp (maxSteps := 1000000) (disch := first | decide | omega | (simp only [go_sem]; first | done | omega)) only [go_sem, Int.reduceToNat, Nat.reduceMul, Nat.reduceAdd, Nat.reduceSub, ↓EU_region, ↓EU_draw, g0, g1, g2, g4, g7, hwi, hwk]
          exact ⟨16 - (i + 1), by omega, i + 1, k + 1, _, h1, rfl, rfl, by omega, by omega, by simp (maxSteps := 1000000) (disch := first | decide | omega | (simp only [go_sem]; first | done | omega)) only [go_sem, Int.reduceToNat, Nat.reduceMul, Nat.reduceAdd, Nat.reduceSub, ↓EU_region, ↓EU_draw, g0], by simp (maxSteps := 1000000) (disch := first | decide | omega | (simp only [go_sem]; first | done | omega)) only [go_sem, Int.reduceToNat, Nat.reduceMul, Nat.reduceAdd, Nat.reduceSub, ↓EU_region, ↓EU_draw, g1], by simp (maxSteps := 1000000) (disch := first | decide | omega | (simp only [go_sem]; first | done | omega)) only [go_sem, Int.reduceToNat, Nat.reduceMul, Nat.reduceAdd, Nat.reduceSub, ↓EU_region, ↓EU_draw, g2], by simp (maxSteps := 1000000) (disch := first | decide | omega | (simp only [go_sem]; first | done | omega)) only [go_sem, Int.reduceToNat, Nat.reduceMul, Nat.reduceAdd, Nat.reduceSub, ↓EU_region, ↓EU_draw], by simp (maxSteps := 1000000) (disch := first | decide | omega | (simp only [go_sem]; first | done | omega)) only [go_sem, Int.reduceToNat, Nat.reduceMul, Nat.reduceAdd, Nat.reduceSub, ↓EU_region, ↓EU_draw], r⟩
        · simp only at e r
          subst e
          simp (maxSteps := 1000000) (disch := first | decide | omega | (simp only [go_sem]; first | done | omega)) only [go_sem, Int.reduceToNat, Nat.reduceMul, Nat.reduceAdd, Nat.reduceSub, ↓EU_region, ↓EU_draw]
          exact ⟨_, h1, rfl, .inr ⟨trivial, r⟩⟩
    · have d : decide ((i : Int) < 16) = false := decide_eq_false (by omega)
      obtain rfl : i = 16 := by omega
      simp (maxSteps := 1000000) (disch := first | decide | omega | (simp only [go_sem]; first | done | omega)) only [go_sem, Int.reduceToNat, Nat.reduceMul, Nat.reduceAdd, Nat.reduceSub, ↓EU_region, ↓EU_draw, g7, d]
      exact ⟨_, h', rfl, .inl ⟨trivial, ii⟩⟩
  · exact ⟨0, 0, _, h0, rfl, rfl, by omega, by omega, by simp (maxSteps := 1000000) (disch := first | decide | omega | (simp only [go_sem]; first | done | omega)) only [go_sem, Int.reduceToNat, Nat.reduceMul, Nat.reduceAdd, Nat.reduceSub, ↓EU_region, ↓EU_draw], by simp (maxSteps := 1000000) (disch := first | decide | omega | (simp only [go_sem]; first | done | omega)) only [go_sem, Int.reduceToNat, Nat.reduceMul, Nat.reduceAdd, Nat.reduceSub, ↓EU_region, ↓EU_draw], by simp (maxSteps := 1000000) (disch := first | decide | omega | (simp only [go_sem]; first | done | omega)) only [go_sem, Int.reduceToNat, Nat.reduceMul, Nat.reduceAdd, Nat.reduceSub, ↓EU_region, ↓EU_draw], by simp (maxSteps := 1000000) (disch := first | decide | omega | (simp only [go_sem]; first | done | omega)) only [go_sem, Int.reduceToNat, Nat.reduceMul, Nat.reduceAdd, Nat.reduceSub, ↓EU_region, ↓EU_draw]; rfl, by simp (maxSteps := 1000000) (disch := first | decide | omega | (simp only [go_sem]; first | done | omega)) only [go_sem, Int.reduceToNat, Nat.reduceMul, Nat.reduceAdd, Nat.reduceSub, ↓EU_region, ↓EU_draw]; rfl, h00⟩
  · omega
  · rintro ⟨_, _⟩ ⟨tm, h', rfl, ⟨rfl, r⟩ | ⟨rfl, r⟩⟩
    · simp (maxSteps := 1000000) (disch := first | decide | omega | (simp only [go_sem]; first | done | omega)) only [go_sem, Int.reduceToNat, Nat.reduceMul, Nat.reduceAdd, Nat.reduceSub, ↓EU_region, ↓EU_draw]
      exact .inl r
    · simp (maxSteps := 1000000) (disch := first | decide | omega | (simp only [go_sem]; first | done | omega)) only [go_sem, Int.reduceToNat, Nat.reduceMul, Nat.reduceAdd, Nat.reduceSub, ↓EU_region, ↓EU_draw]
      exact .inr r
set_option maxHeartbeats 4000000 in
theorem around_ev (M : Nat) (hM : M < 65536) (c : Int) (wc : -9223372036854775808 ≤ c ∧ c ≤ 9223372036854775807) (h : Heap) :
    WPo (EF Tryd.prog O0 9 [.int .u16 (M : Int), .int .i64 c] h) fun q => OW (intE .i64) 1 q.2 q.1 (arI M (clampN c) 16) ∧ Fresh h.next q.1 ∧ Ext h q.2 := by
  rw [EF_body (O := O0) (by kernel_rfl) Tryd.func9 rfl (rs := [.tmp 4]) rfl (bad := []) (by kernel_rfl) _ _ (m := 18) rfl]
  have hf := clampN_lt c
  simp (maxSteps := 1000000) (disch := first | decide | omega | (simp only [go_sem]; first | done | omega)) only [go_sem, Int.reduceToNat, Nat.reduceMul, Nat.reduceAdd, Nat.reduceSub, ↓EU_region, ↓EU_draw]
  repeat refine WPo_ob ?_
  rw [from_ev M c]
  have x1 : Ext h ((((h.push (.cells [.slice none 0 1] 0)).push (.cells [.int .u16 (M : Int)] 0)).push (.cells [.int .i64 0] 0)).set (h.next + 1 + 1) (.cells [.int .i64 (clampN c : Int)] 0)) := by repeat (first | exact Ext.refl _ | assumption | refine Ext.push ?_ _ | refine Ext.set ?_ _ _ (by first | omega | (simp only [next_push, next_set]; omega)))
  have c0 : ((((h.push (.cells [.slice none 0 1] 0)).push (.cells [.int .u16 (M : Int)] 0)).push (.cells [.int .i64 0] 0)).set (h.next + 1 + 1) (.cells [.int .i64 (clampN c : Int)] 0)).get h.next = .cells [.slice none 0 1] 0 := by simp (maxSteps := 1000000) (disch := first | decide | omega | (simp only [go_sem]; first | done | omega)) only [go_sem, Int.reduceToNat, Nat.reduceMul, Nat.reduceAdd, Nat.reduceSub, ↓EU_region, ↓EU_draw]
  have cA : ((((h.push (.cells [.slice none 0 1] 0)).push (.cells [.int .u16 (M : Int)] 0)).push (.cells [.int .i64 0] 0)).set (h.next + 1 + 1) (.cells [.int .i64 (clampN c : Int)] 0)).get (h.next + 1) = .cells [.int .u16 (M : Int)] 0 := by simp (maxSteps := 1000000) (disch := first | decide | omega | (simp only [go_sem]; first | done | omega)) only [go_sem, Int.reduceToNat, Nat.reduceMul, Nat.reduceAdd, Nat.reduceSub, ↓EU_region, ↓EU_draw]
  have cF : ((((h.push (.cells [.slice none 0 1] 0)).push (.cells [.int .u16 (M : Int)] 0)).push (.cells [.int .i64 0] 0)).set (h.next + 1 + 1) (.cells [.int .i64 (clampN c : Int)] 0)).get (h.next + 1 + 1) = .cells [.int .i64 (clampN c : Int)] 0 := by simp (maxSteps := 1000000) (disch := first | decide | omega | (simp only [go_sem]; first | done | omega)) only [go_sem, Int.reduceToNat, Nat.reduceMul, Nat.reduceAdd, Nat.reduceSub, ↓EU_region, ↓EU_draw]
  have hn1 : ((((h.push (.cells [.slice none 0 1] 0)).push (.cells [.int .u16 (M : Int)] 0)).push (.cells [.int .i64 0] 0)).set (h.next + 1 + 1) (.cells [.int .i64 (clampN c : Int)] 0)).next = h.next + 1 + 1 + 1 := by simp (maxSteps := 1000000) (disch := first | decide | omega | (simp only [go_sem]; first | done | omega)) only [go_sem, Int.reduceToNat, Nat.reduceMul, Nat.reduceAdd, Nat.reduceSub, ↓EU_region, ↓EU_draw]
  simp (maxSteps := 1000000) (disch := first | decide | omega | (simp only [go_sem]; first | done | omega)) only [go_sem, Int.reduceToNat, Nat.reduceMul, Nat.reduceAdd, Nat.reduceSub, ↓EU_region, ↓EU_draw]
  generalize ((((h.push (.cells [.slice none 0 1] 0)).push (.cells [.int .u16 (M : Int)] 0)).push (.cells [.int .i64 0] 0)).set (h.next + 1 + 1) (.cells [.int .i64 (clampN c : Int)] 0)) = h1 at *
  generalize clampN c = f at *
  repeat refine WPo_ob ?_
  refine range_rule' stR (fun p h' => p = none ∧ (∃ v, h'.get h.next = .cells [v] 0 ∧ OW (intE .i64) 1 h' v (arI M f 16) ∧ Fresh (h1.next + 2) v) ∧ h'.get h1.next = .defd ∧ h1.next < h'.next ∧ Ext h h') stR_b ?_ ?_ ?_
  · intro LB hLB
    have g0 : ((h1.push .defd).push (LB .ready none)).get h.next = .cells [.slice none 0 1] 0 := by rw [get_push_old _ (by rw [next_push]; omega), get_push_old _ (by omega)]; exact c0
    have g1 : ((h1.push .defd).push (LB .ready none)).get (h.next + 1) = .cells [.int .u16 (M : Int)] 0 := by rw [get_push_old _ (by rw [next_push]; omega), get_push_old _ (by omega)]; exact cA
    have g2 : ((h1.push .defd).push (LB .ready none)).get (h.next + 1 + 1) = .cells [.int .i64 (f : Int)] 0 := by rw [get_push_old _ (by rw [next_push]; omega), get_push_old _ (by omega)]; exact cF
    have g3 : ((h1.push .defd).push (LB .ready none)).get h1.next = .defd := by rw [get_push_old _ (by rw [next_push]; omega)]; exact get_push_new _ _
    have g4 : ((h1.push .defd).push (LB .ready none)).get (h1.next + 1) = LB .ready none := by rw [← next_push h1 .defd]; exact get_push_new _ _
    have gx : Ext h1 ((h1.push .defd).push (LB .ready none)) := ((Ext.refl h1).push _).push _
    have gn : ((h1.push .defd).push (LB .ready none)).next = h1.next + 2 := by rw [next_push, next_push]
    generalize (h1.push .defd).push (LB .ready none) = hb at *
    have e1 : Ext h hb := x1.trans gx
    refine (from1_ev M hM f hf (h.next + 1) (h.next + 1 + 1) (yieldV (h1.next + 1)) (fun i h' => Mod (fun j => j = h.next ∨ j = h1.next + 1) hb h' ∧ h'.get (h1.next + 1) = LB .ready none ∧ ∃ v, h'.get h.next = .cells [v] 0 ∧ OW (intE .i64) 1 h' v (arI M f i) ∧ Fresh hb.next v) (fun _ => False) hb ?_ ⟨Mod.refl _ _, g4, _, g0, OW.nil, Fresh.nil _ _ _⟩ ?_ ?_).mono ?_
    · rintro i h' ⟨m, k4, k5⟩
      exact ⟨by rw [m.old' (by omega) (by omega)]; exact g1, by rw [m.old' (by omega) (by omega)]; exact g2⟩
    · rintro i h' hi hb ⟨m, k4, v, k0, ov, fv⟩
      rw [← arI_f hb] at ov
      exact ⟨m, k4, v, k0, ov, fv⟩
    · rintro i k h' hi hhas ⟨m, k4, v, k0, ov, fv⟩
      have hm := m.le
      have hlt := arI_len M f i
      obtain ⟨x, hxi⟩ : ∃ x : Int, x = (((f + i) % 16 : Nat) : Int) := ⟨_, rfl⟩
      have hnx : arI M f (i + 1) = arI M f i ++ [x] := by rw [hxi]; exact arI_t hhas
      rw [← hxi]
      refine round_rule' hLB k4 rfl (tm1 := ?_) ?_ ?_
      rotate_left
      · rw [setP2, EC_EU (bad := []) (by kernel_rfl)]
        simp (maxSteps := 1000000) (disch := first | decide | omega | (simp only [go_sem]; first | done | omega)) only [go_sem, Int.reduceToNat, Nat.reduceMul, Nat.reduceAdd, Nat.reduceSub, ↓EU_region, ↓EU_draw]
        rfl
      · rw [EC_EU (bad := []) (by kernel_rfl)]
        have k0' : (h'.set (h1.next + 1) (LB .busy none)).get h.next = .cells [v] 0 := by rw [get_set_ne _ (by omega)]; exact k0
        have k4' : (h'.set (h1.next + 1) (LB .busy none)).get (h1.next + 1) = LB .busy none := get_set_same _ _ _
        have m' : Mod (fun j => j = h.next ∨ j = h1.next + 1) hb (h'.set (h1.next + 1) (LB .busy none)) := m.set _ _ (fun _ => .inr rfl)
        have hn' : (h'.set (h1.next + 1) (LB .busy none)).next = h'.next := next_set _ _ _
        have ov' : OW (intE .i64) 1 (h'.set (h1.next + 1) (LB .busy none)) v (arI M f i) := ov.mod (Mod.set (S := fun j => j = h1.next + 1) (Mod.refl _ _) _ _ (fun _ => rfl)) (fun j hj q => by have := fv j hj; omega)
        generalize h'.set (h1.next + 1) (LB .busy none) = h2 at *
        obtain ⟨va, vc, hve⟩ := ov'.val
        simp (maxSteps := 1000000) (disch := first | decide | omega | (simp only [go_sem]; first | done | omega)) only [go_sem, Int.reduceToNat, Nat.reduceMul, Nat.reduceAdd, Nat.reduceSub, ↓EU_region, ↓EU_draw, k0']
        repeat refine WPo_ob ?_
        refine append_gr (e := intE .i64) (l := arI M f i) (l' := [x]) fc_ap_27_27 i64_len (by decide) i64_scal (ov'.ext ((Ext.refl h2).push _)) (OW.lit i64_len h2 [x]).sl (by simp only [List.length_cons, List.length_nil]; omega) (by simp only [List.length_cons, List.length_nil]; omega) fun v3 h3 o3 gr => ?_
        rw [← hnx] at o3
        have hn3 := gr.le
        rw [next_push] at hn3
        have nb1 : ¬ blkOf v h.next := fun q => by have := fv _ q; omega
        have nb2 : ¬ blkOf v (h1.next + 1) := fun q => by have := fv _ q; omega
        have k03 : h3.get h.next = .cells [v] 0 := by rw [gr.old _ (by rw [next_push]; omega) nb1, get_push_old _ (by omega)]; exact k0'
        have k43 : h3.get (h1.next + 1) = LB .busy none := by rw [gr.old _ (by rw [next_push]; omega) nb2, get_push_old _ (by omega)]; exact k4'
        have f3 : Fresh hb.next v3 := fun j hj => by
          rcases gr.src j hj with q | q
          · exact fv j q
          · rw [next_push] at q; omega
        have m3 : Mod (fun j => j = h.next ∨ j = h1.next + 1) hb h3 := (m'.push (.cells [.int .i64 x] 1)).drop (Mod.mono (S := blkOf v) ⟨gr.le, fun j hj hq => gr.old j hj hq⟩ fun j _ q => .inr (fv j q))
        obtain ⟨wa, wc, rfl⟩ := o3.val
        simp (maxSteps := 1000000) (disch := first | decide | omega | (simp only [go_sem]; first | done | omega)) only [go_sem, Int.reduceToNat, Nat.reduceMul, Nat.reduceAdd, Nat.reduceSub, ↓EU_region, ↓EU_draw, k03]
        refine ⟨k43, .inl ⟨trivial, .inl ⟨trivial, (m3.set _ _ (fun _ => .inl rfl)).set _ _ (fun _ => .inr rfl), trivial, _, rfl, ?_, f3⟩⟩⟩
        refine (o3.mod (Mod.set (S := fun j => j = h.next) (Mod.refl _ _) _ _ (fun _ => rfl)) (fun j hj q => by have := f3 j hj; omega)).mod (Mod.set (S := fun j => j = h1.next + 1) (Mod.refl _ _) _ _ (fun _ => rfl)) (fun j hj q => by have := f3 j hj; omega)
    · rintro ⟨v, h'⟩ (⟨m, k4, v', k0, ov, fv⟩ | k)
      · have hm := m.le
        simp only at k4 k0 ov
        refine ⟨none, k4, rfl, ⟨v', by rw [get_set_ne _ (by omega)]; exact k0, ov.mod (Mod.set (S := fun j => j = h1.next + 1) (Mod.refl _ _) _ _ (fun _ => rfl)) (fun j hj q => by have := fv j hj; omega), by rw [← gn]; exact fv⟩, ?_, by rw [next_set]; omega, ?_⟩
        · rw [get_set_ne _ (by omega), m.old' (by omega) (by omega)]; exact g3
        · exact Mod.ext ((e1.mod (fun _ => False)).drop ((m.set _ _ (fun _ => .inr rfl)).mono fun i _ q => .inr (by omega)))
      · exact k.elim
  · rintro h' ⟨_, ⟨v, k0, ov, fv⟩, k3, hn, xx⟩
    obtain ⟨va, vc, rfl⟩ := ov.val
    simp (maxSteps := 1000000) (disch := first | decide | omega | (simp only [go_sem]; first | done | omega)) only [go_sem, Int.reduceToNat, Nat.reduceMul, Nat.reduceAdd, Nat.reduceSub, ↓EU_region, ↓EU_draw, k0]
    rw [leaveK_dr _ _ _ _ _ k3]
    simp (maxSteps := 1000000) (disch := first | decide | omega | (simp only [go_sem]; first | done | omega)) only [go_sem, Int.reduceToNat, Nat.reduceMul, Nat.reduceAdd, Nat.reduceSub, ↓EU_region, ↓EU_draw]
    exact ⟨ov.mod (Mod.set (S := fun j => j = h1.next) (Mod.refl _ _) _ _ (fun _ => rfl)) (fun j hj q => by have := fv j hj; omega), fv.mono (by omega), xx.set h1.next _ (by omega)⟩
  · rintro c h' ⟨q, _⟩
    cases q
end Go.Proofs.YtpgekabdemmlfaaDoor.EV
