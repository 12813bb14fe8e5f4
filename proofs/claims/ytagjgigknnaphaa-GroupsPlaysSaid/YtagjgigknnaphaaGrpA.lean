/- Contracts: the reference's groups. No condition. -/
import Derived.Test.YtagjgigknnaphaaGrp9
namespace Go.Proofs.Ytagjgigknnaphaa.EV
open Go Go.Proofs
set_option linter.unusedVariables false
set_option linter.unusedSimpArgs false
set_option maxRecDepth 100000
set_option pp.deepTerms false
set_option pp.deepTerms.threshold 20
noncomputable def rcE (U : List Int) (T : List Bool) : List Value := U.map (fun u => .int .i64 u) ++ T.map (fun t => .bool t)
noncomputable def RR (h : Heap) (R : Nat) (U : List Int) (T : List Bool) : Prop := h.get R = .cells (rcE U T) 0 ∧ U.length = 16 ∧ T.length = 16 ∧ R < h.next
theorem RR.ext {h h' : Heap} {R : Nat} {U : List Int} {T : List Bool} (g : RR h R U T) (x : Ext h h') : RR h' R U T := ⟨by rw [x.old _ g.2.2.2]; exact g.1, g.2.1, g.2.2.1, Nat.lt_of_lt_of_le g.2.2.2 x.le⟩
theorem rcE_len {U : List Int} {T : List Bool} (hU : U.length = 16) (hT : T.length = 16) : (rcE U T).length = 32 := by
  unfold rcE
  rw [List.length_append, List.length_map, List.length_map]; omega
theorem RR.up {h : Heap} {R : Nat} {U : List Int} {T : List Bool} (g : RR h R U T) {i : Nat} (hi : i < 16) : rdc1 (h.get R) i = some (.int .i64 (U.getD i 0)) := by
  have hU := g.2.1
  rw [g.1, rdc1_c]
  unfold rcE
  rw [List.getElem?_append_left (by rw [List.length_map]; omega), List.getElem?_map, List.getD_eq_getElem?_getD, List.getElem?_eq_getElem (by omega)]; rfl
theorem RR.in' {h : Heap} {R : Nat} {U : List Int} {T : List Bool} (g : RR h R U T) {i : Nat} (hi : i < 16) : rdc1 (h.get R) (16 + i) = some (.bool (T.getD i false)) := by
  have hU := g.2.1
  rw [g.1, rdc1_c]
  unfold rcE
  rw [List.getElem?_append_right (by rw [List.length_map]; omega), List.length_map, hU, Nat.add_sub_cancel_left, List.getElem?_map, List.getD_eq_getElem?_getD, List.getElem?_eq_getElem (by rw [g.2.2.1]; exact hi)]; rfl
theorem rcE_setU {U : List Int} {T : List Bool} (hU : U.length = 16) {i : Nat} (hi : i < 16) (u : Int) : (rcE U T).set i (.int .i64 u) = rcE (U.set i u) T := by
  unfold rcE
  rw [List.set_append_left _ _ (by rw [List.length_map]; omega), List.map_set]
theorem rcE_setT {U : List Int} {T : List Bool} (hU : U.length = 16) {i : Nat} (t : Bool) : (rcE U T).set (16 + i) (.bool t) = rcE U (T.set i t) := by
  unfold rcE
  rw [List.set_append_right _ _ (by rw [List.length_map]; omega), List.length_map, hU, Nat.add_sub_cancel_left, List.map_set]
/-- both tell the same -/
noncomputable def RL (gl : List Gp) (U : List Int) (T : List Bool) : Prop := ∀ i, i < 16 → T.getD i false = (gl.getD i (false, 0)).1 ∧ ((gl.getD i (false, 0)).1 = true → U.getD i 0 = (gl.getD i (false, 0)).2)
noncomputable def U0 : List Int := -1 :: List.replicate 15 0
noncomputable def T0 : List Bool := true :: List.replicate 15 false
theorem RL0 : RL gl0 U0 T0 := by
  intro i hi
  have : ∀ i : _root_.Fin 16, T0.getD i.val false = (gl0.getD i.val (false, 0)).1 ∧ ((gl0.getD i.val (false, 0)).1 = true → U0.getD i.val 0 = (gl0.getD i.val (false, 0)).2) := by decide
  exact this ⟨i, hi⟩
theorem rnew_ev (h : Heap) : WPo (EF Try.prog O0 16 [] h) fun q => q.1 = ptr h.next 0 ∧ RR q.2 h.next U0 T0 ∧ Ext h q.2 := by
  rw [EF_body (O := O0) (by kernel_rfl) Try.func16 rfl (rs := [.tmp 0]) rfl (bad := []) (by kernel_rfl) _ _ (m := 13) rfl]
  simp (maxSteps := 1000000) (disch := first | decide | omega | (simp only [go_sem]; first | done | omega)) only [go_sem, Int.reduceToNat, Nat.reduceMul, Nat.reduceAdd, Nat.reduceSub, ↓EU_region, ↓EU_draw]
  exact ⟨trivial, ⟨get_push_new _ _, rfl, rfl, by rw [next_push]; omega⟩, (Ext.refl h).push _⟩
theorem rhas_ev (gl : List Gp) (U : List Int) (T : List Bool) (R : Nat) (id : Int) (h : Heap) (g : RR h R U T) (rl : RL gl U T) : EF Try.prog O0 25 [ptr R 0, .int .i64 id] h = some (.bool (hasB gl id), h) := by
  have : WPo (EF Try.prog O0 25 [ptr R 0, .int .i64 id] h) fun q => q = (.bool (hasB gl id), h) := by
    unfold hasB
    rw [EF_body (O := O0) (by kernel_rfl) Try.func25 rfl (rs := [.tmp 4]) rfl (bad := []) (by kernel_rfl) _ _ (m := 19) rfl]
    by_cases q0 : 0 ≤ id
    · have d0 : decide (0 ≤ id) = true := decide_eq_true q0
      by_cases q1 : id < 16
      · have d1 : decide (id < 16) = true := decide_eq_true q1
        have r1 := g.in' (i := id.toNat) (by omega)
        rw [(rl id.toNat (by omega)).1] at r1
        unfold gat
        simp (maxSteps := 1000000) (disch := first | decide | omega | (simp only [go_sem]; first | done | omega)) only [go_sem, Int.reduceToNat, Nat.reduceMul, Nat.reduceAdd, Nat.reduceSub, ↓EU_region, ↓EU_draw, d0, d1, r1, Nat.mul_one]
      · have d1 : decide (id < 16) = false := decide_eq_false q1
        simp (maxSteps := 1000000) (disch := first | decide | omega | (simp only [go_sem]; first | done | omega)) only [go_sem, Int.reduceToNat, Nat.reduceMul, Nat.reduceAdd, Nat.reduceSub, ↓EU_region, ↓EU_draw, d0, d1]
    · have d0 : decide (0 ≤ id) = false := decide_eq_false q0
      simp (maxSteps := 1000000) (disch := first | decide | omega | (simp only [go_sem]; first | done | omega)) only [go_sem, Int.reduceToNat, Nat.reduceMul, Nat.reduceAdd, Nat.reduceSub, ↓EU_region, ↓EU_draw, d0]
  obtain ⟨q, e, rfl⟩ := this
  exact e
set_option maxHeartbeats 1000000 in
theorem rpath_ev (gl : List Gp) (U : List Int) (T : List Bool) (R : Nat) (id : Int) (l : List Int) (hp : PA gl id l) (hl : l.length ≤ 1000) (h : Heap) (g : RR h R U T) (rl : RL gl U T) :
    WPo (EF Try.prog O0 21 [ptr R 0, .int .i64 id] h) fun q => OW (intE .i64) 1 q.2 q.1 l ∧ Fresh h.next q.1 ∧ Ext h q.2 := by
  rw [EF_body (O := O0) (by kernel_rfl) Try.func21 rfl (rs := [.tmp 4]) rfl (bad := []) (by kernel_rfl) _ _ (m := 20) rfl]
  simp (maxSteps := 1000000) (disch := first | decide | omega | (simp only [go_sem]; first | done | omega)) only [go_sem, Int.reduceToNat, Nat.reduceMul, Nat.reduceAdd, Nat.reduceSub, ↓EU_region, ↓EU_draw]
  repeat refine WPo_ob ?_
  refine (LP_rule (fun m st => ∃ (i : Nat) (tm : Fr) (h' : Heap) (at' : Int) (v : Value), st = ⟨tm, h', []⟩ ∧ m = l.length - i ∧ i ≤ l.length ∧ Fr.get tm 0 = ptr R 0 ∧ Fr.get tm 1 = .int .i64 at' ∧ Fr.get tm 5 = v ∧ PA gl at' (l.drop i) ∧ OW (intE .i64) 1 h' v (l.take i) ∧ Fresh h.next v ∧ Ext h h')
    (fun q => ∃ tm h' v, q.2 = ⟨tm, h', []⟩ ∧ q.1 = .exit 0 ∧ Fr.get tm 5 = v ∧ OW (intE .i64) 1 h' v l ∧ Fresh h.next v ∧ Ext h h') ?_ l.length _ _ ?_ ?_).mono ?_
  · rintro m _ ⟨i, tm, h', at', v, rfl, rfl, hil, g0, g1, g5, pa, ov, fv, x'⟩
    have gr := g.ext x'
    have hh := rhas_ev gl U T R at' h' gr rl
    generalize hr : l.drop i = r at pa
    cases pa with
    | stop hb =>
      rw [hb] at hh
      have : i = l.length := by
        have := congrArg List.length hr
        rw [List.length_drop] at this
        simp at this; omega
      subst this
      rw [List.take_length] at ov
      simp (maxSteps := 1000000) (disch := first | decide | omega | (simp only [go_sem]; first | done | omega)) only [go_sem, Int.reduceToNat, Nat.reduceMul, Nat.reduceAdd, Nat.reduceSub, ↓EU_region, ↓EU_draw, g0, g1, g5, hh]
      exact ⟨_, h', v, rfl, trivial, by simp (maxSteps := 1000000) (disch := first | decide | omega | (simp only [go_sem]; first | done | omega)) only [go_sem, Int.reduceToNat, Nat.reduceMul, Nat.reduceAdd, Nat.reduceSub, ↓EU_region, ↓EU_draw, g5], ov, fv, x'⟩
    | go hb r' =>
      rename_i l'
      rw [hb] at hh
      have hx : l[i]? = some at' := by
        have := congrArg (fun z => z[0]?) hr
        simpa using this
      have hil' := (List.getElem?_eq_some_iff.1 hx).1
      have hlt : (l.take i).length = i := by rw [List.length_take]; omega
      have hdr : l.drop (i + 1) = l' := by
        have := congrArg (fun z => z.drop 1) hr
        simpa [List.drop_drop] using this
      have hnx : l.take (i + 1) = l.take i ++ [at'] := by rw [List.take_add_one, hx]; rfl
      have hbb := hasB_iff.1 hb
      simp (maxSteps := 1000000) (disch := first | decide | omega | (simp only [go_sem]; first | done | omega)) only [go_sem, Int.reduceToNat, Nat.reduceMul, Nat.reduceAdd, Nat.reduceSub, ↓EU_region, ↓EU_draw, g0, g1, g5, hh]
      repeat refine WPo_ob ?_
      refine append_own (e := intE .i64) (h0 := h) (l := l.take i) (l' := [at']) fc_ap_22_22 i64_len (by decide) i64_scal (x'.push _) (ov.ext ((Ext.refl h').push _)) fv (OW.lit i64_len h' [at']).sl (by simp only [List.length_cons, List.length_nil]; omega) (by simp only [List.length_cons, List.length_nil]; omega) fun v2 h2 o2 f2 x2 _ _ => ?_
      rw [← hnx] at o2
      have r2 := (g.ext x2).up (i := at'.toNat) (by omega)
      rw [(rl at'.toNat (by omega)).2 hbb.2.2, show (gl.getD at'.toNat (false, 0)).2 = (gat gl at').2 from rfl] at r2
      have d0 : decide (0 ≤ at') = true := decide_eq_true hbb.1
      have d1 : decide (at' < 16) = true := decide_eq_true hbb.2.1
      simp (maxSteps := 1000000) (disch := first | decide | omega | (simp only [go_sem]; first | done | omega)) only [go_sem, Int.reduceToNat, Nat.reduceMul, Nat.reduceAdd, Nat.reduceSub, ↓EU_region, ↓EU_draw, g0, g1, d0, d1, r2, Nat.mul_one, Nat.zero_add]
      exact ⟨l.length - (i + 1), by omega, i + 1, _, h2, _, v2, rfl, rfl, by omega, by simp (maxSteps := 1000000) (disch := first | decide | omega | (simp only [go_sem]; first | done | omega)) only [go_sem, Int.reduceToNat, Nat.reduceMul, Nat.reduceAdd, Nat.reduceSub, ↓EU_region, ↓EU_draw, g0], by simp (maxSteps := 1000000) (disch := first | decide | omega | (simp only [go_sem]; first | done | omega)) only [go_sem, Int.reduceToNat, Nat.reduceMul, Nat.reduceAdd, Nat.reduceSub, ↓EU_region, ↓EU_draw]; rfl, by simp (maxSteps := 1000000) (disch := first | decide | omega | (simp only [go_sem]; first | done | omega)) only [go_sem, Int.reduceToNat, Nat.reduceMul, Nat.reduceAdd, Nat.reduceSub, ↓EU_region, ↓EU_draw], by rw [hdr]; exact r', o2, f2, x2⟩
  · exact ⟨0, _, h, id, .slice none 0 1, rfl, rfl, by omega, by simp (maxSteps := 1000000) (disch := first | decide | omega | (simp only [go_sem]; first | done | omega)) only [go_sem, Int.reduceToNat, Nat.reduceMul, Nat.reduceAdd, Nat.reduceSub, ↓EU_region, ↓EU_draw], by simp (maxSteps := 1000000) (disch := first | decide | omega | (simp only [go_sem]; first | done | omega)) only [go_sem, Int.reduceToNat, Nat.reduceMul, Nat.reduceAdd, Nat.reduceSub, ↓EU_region, ↓EU_draw], by simp (maxSteps := 1000000) (disch := first | decide | omega | (simp only [go_sem]; first | done | omega)) only [go_sem, Int.reduceToNat, Nat.reduceMul, Nat.reduceAdd, Nat.reduceSub, ↓EU_region, ↓EU_draw], by rw [List.drop_zero]; exact hp, OW.nil, Fresh.nil _ _ _, Ext.refl _⟩
  · omega
  · rintro ⟨_, _⟩ ⟨tm, h', v, rfl, rfl, g5, ov, fv, x'⟩
    simp (maxSteps := 1000000) (disch := first | decide | omega | (simp only [go_sem]; first | done | omega)) only [go_sem, Int.reduceToNat, Nat.reduceMul, Nat.reduceAdd, Nat.reduceSub, ↓EU_region, ↓EU_draw, g5]
    exact ⟨ov, fv, x'⟩
theorem rall_ev (gl : List Gp) (U : List Int) (T : List Bool) (R : Nat) (h : Heap) (g : RR h R U T) (rl : RL gl U T) :
    WPo (EF Try.prog O0 20 [ptr R 0] h) fun q => OW (intE .i64) 1 q.2 q.1 (allN gl 16) ∧ Fresh h.next q.1 ∧ Ext h q.2 := by
  rw [EF_body (O := O0) (by kernel_rfl) Try.func20 rfl (rs := [.tmp 2]) rfl (bad := []) (by kernel_rfl) _ _ (m := 20) rfl]
  simp (maxSteps := 1000000) (disch := first | decide | omega | (simp only [go_sem]; first | done | omega)) only [go_sem, Int.reduceToNat, Nat.reduceMul, Nat.reduceAdd, Nat.reduceSub, ↓EU_region, ↓EU_draw]
  repeat refine WPo_ob ?_
  refine (LP_rule (fun m st => ∃ (i : Nat) (tm : Fr) (h' : Heap) (v : Value), st = ⟨tm, h', []⟩ ∧ m = 16 - i ∧ i ≤ 16 ∧ Fr.get tm 0 = ptr R 0 ∧ Fr.get tm 3 = v ∧ Fr.get tm 4 = .int .i64 i ∧ OW (intE .i64) 1 h' v (allN gl i) ∧ Fresh h.next v ∧ Ext h h')
    (fun q => ∃ (tm : Fr) (h' : Heap) (v : Value), q.2 = ⟨tm, h', []⟩ ∧ q.1 = .exit 0 ∧ Fr.get tm 3 = v ∧ OW (intE .i64) 1 h' v (allN gl 16) ∧ Fresh h.next v ∧ Ext h h') ?_ 16 _ _ ?_ ?_).mono ?_
  · rintro m _ ⟨i, tm, h', v, rfl, rfl, hi, g0, g3, g4, ov, fv, x'⟩
    by_cases q : i < 16
    · have d1 : decide ((i : Int) < 16) = true := decide_eq_true (by omega)
      have r1 := (g.ext x').in' (i := i) q
      have hbb : hasB gl i = T.getD i false := by
        rw [(rl i q).1]
        unfold hasB
        rw [decide_eq_true (by omega : (0 : Int) ≤ (i : Int)), d1]; rfl
      have hwi : wrapF .i64 ((i : Int) + 1) = ((i + 1 : Nat) : Int) := by rw [wrap64 (by omega)]; rfl
      have hln := allN_len gl i
      have hnx : allN gl (i + 1) = allN gl i ++ (if hasB gl i then [(i : Int)] else []) := rfl
      rw [← hbb] at r1
      cases hb : hasB gl i with
      | true =>
        rw [hb] at r1
        rw [hb, if_pos rfl] at hnx
        simp (maxSteps := 1000000) (disch := first | decide | omega | (simp only [go_sem]; first | done | omega)) only [go_sem, Int.reduceToNat, Nat.reduceMul, Nat.reduceAdd, Nat.reduceSub, ↓EU_region, ↓EU_draw, g0, g3, g4, d1, r1, Nat.mul_one]
        repeat refine WPo_ob ?_
        refine append_own (e := intE .i64) (h0 := h) (l := allN gl i) (l' := [(i : Int)]) fc_ap_22_22 i64_len (by decide) i64_scal (x'.push _) (ov.ext ((Ext.refl h').push _)) fv (OW.lit i64_len h' [(i : Int)]).sl (by simp only [List.length_cons, List.length_nil]; omega) (by simp only [List.length_cons, List.length_nil]; omega) fun v2 h2 o2 f2 x2 _ _ => ?_
        rw [← hnx] at o2
        simp (maxSteps := 1000000) (disch := first | decide | omega | (simp only [go_sem]; first | done | omega)) only [go_sem, Int.reduceToNat, Nat.reduceMul, Nat.reduceAdd, Nat.reduceSub, ↓EU_region, ↓EU_draw, g4, hwi]
        exact ⟨16 - (i + 1), by omega, i + 1, _, h2, v2, rfl, rfl, by omega, by simp (maxSteps := 1000000) (disch := first | decide | omega | (simp only [go_sem]; first | done | omega)) only [go_sem, Int.reduceToNat, Nat.reduceMul, Nat.reduceAdd, Nat.reduceSub, ↓EU_region, ↓EU_draw, g0], by simp (maxSteps := 1000000) (disch := first | decide | omega | (simp only [go_sem]; first | done | omega)) only [go_sem, Int.reduceToNat, Nat.reduceMul, Nat.reduceAdd, Nat.reduceSub, ↓EU_region, ↓EU_draw], by simp (maxSteps := 1000000) (disch := first | decide | omega | (simp only [go_sem]; first | done | omega)) only [go_sem, Int.reduceToNat, Nat.reduceMul, Nat.reduceAdd, Nat.reduceSub, ↓EU_region, ↓EU_draw], o2, f2, x2⟩
      | false =>
        rw [hb] at r1
        rw [hb, if_neg (by decide), List.append_nil] at hnx
        rw [← hnx] at ov
        simp (maxSteps := 1000000) (disch := first | decide | omega | (simp only [go_sem]; first | done | omega)) only [go_sem, Int.reduceToNat, Nat.reduceMul, Nat.reduceAdd, Nat.reduceSub, ↓EU_region, ↓EU_draw, g0, g3, g4, d1, r1, hwi, Nat.mul_one]
        exact ⟨16 - (i + 1), by omega, i + 1, _, h', v, rfl, rfl, by omega, by simp (maxSteps := 1000000) (disch := first | decide | omega | (simp only [go_sem]; first | done | omega)) only [go_sem, Int.reduceToNat, Nat.reduceMul, Nat.reduceAdd, Nat.reduceSub, ↓EU_region, ↓EU_draw, g0], by simp (maxSteps := 1000000) (disch := first | decide | omega | (simp only [go_sem]; first | done | omega)) only [go_sem, Int.reduceToNat, Nat.reduceMul, Nat.reduceAdd, Nat.reduceSub, ↓EU_region, ↓EU_draw, g3], by simp (maxSteps := 1000000) (disch := first | decide | omega | (simp only [go_sem]; first | done | omega)) only [go_sem, Int.reduceToNat, Nat.reduceMul, Nat.reduceAdd, Nat.reduceSub, ↓EU_region, ↓EU_draw], ov, fv, x'⟩
    · have d1 : decide ((i : Int) < 16) = false := decide_eq_false (by omega)
      have e6 : i = 16 := by omega
      subst e6
      simp (maxSteps := 1000000) (disch := first | decide | omega | (simp only [go_sem]; first | done | omega)) only [go_sem, Int.reduceToNat, Nat.reduceMul, Nat.reduceAdd, Nat.reduceSub, ↓EU_region, ↓EU_draw, g0, g3, g4, d1]
      exact ⟨_, h', v, rfl, trivial, by simp (maxSteps := 1000000) (disch := first | decide | omega | (simp only [go_sem]; first | done | omega)) only [go_sem, Int.reduceToNat, Nat.reduceMul, Nat.reduceAdd, Nat.reduceSub, ↓EU_region, ↓EU_draw, g3], ov, fv, x'⟩
  · exact ⟨0, _, h, .slice none 0 1, rfl, rfl, by decide, by simp (maxSteps := 1000000) (disch := first | decide | omega | (simp only [go_sem]; first | done | omega)) only [go_sem, Int.reduceToNat, Nat.reduceMul, Nat.reduceAdd, Nat.reduceSub, ↓EU_region, ↓EU_draw], by simp (maxSteps := 1000000) (disch := first | decide | omega | (simp only [go_sem]; first | done | omega)) only [go_sem, Int.reduceToNat, Nat.reduceMul, Nat.reduceAdd, Nat.reduceSub, ↓EU_region, ↓EU_draw], by simp (maxSteps := 1000000) (disch := first | decide | omega | (simp only [go_sem]; first | done | omega)) only [go_sem, Int.reduceToNat, Nat.reduceMul, Nat.reduceAdd, Nat.reduceSub, ↓EU_region, ↓EU_draw]; rfl, OW.nil, Fresh.nil _ _ _, Ext.refl _⟩
  · decide
  · rintro ⟨_, _⟩ ⟨tm, h', v, rfl, rfl, g3, ov, fv, x'⟩
    simp (maxSteps := 1000000) (disch := first | decide | omega | (simp only [go_sem]; first | done | omega)) only [go_sem, Int.reduceToNat, Nat.reduceMul, Nat.reduceAdd, Nat.reduceSub, ↓EU_region, ↓EU_draw, g3]
    exact ⟨ov, fv, x'⟩
theorem getD_setL {α : Type} {l : List α} {k i : Nat} {x d : α} (hk : k < l.length) : (l.set k x).getD i d = if i = k then x else l.getD i d := by
  rw [List.getD_eq_getElem?_getD, List.getD_eq_getElem?_getD, List.getElem?_set]
  by_cases q : i = k
  · rw [if_pos q, if_pos q.symm, if_pos (by omega)]; rfl
  · rw [if_neg q, if_neg (fun e => q e.symm)]
theorem gl0_there {gl : List Gp} (gi : GI gl) : (gl.getD 0 (false, 0)) = (true, -1) := gi.2.1
set_option maxHeartbeats 4000000 in
theorem radd_ev (gl : List Gp) (gi : GI gl) (U : List Int) (T : List Bool) (R : Nat) (up : Int) (l : List Int) (hp : PA gl up l) (hl : l.length ≤ 1000) (h : Heap) (g : RR h R U T) (rl : RL gl U T) :
    WPo (EF Try.prog O0 19 [ptr R 0, .int .i64 up] h) fun q => q.1 = .tuple ⟨[.int .i64 (gaddR gl up l.length).1, .int .i64 (gaddR gl up l.length).2.1]⟩ ∧ (∃ U' T', RR q.2 R U' T' ∧ RL (gaddR gl up l.length).2.2 U' T') ∧ Mod (fun j => j = R) h q.2 := by
  unfold gaddR
  have hh := rhas_ev gl U T R up h g rl
  rw [EF_body (O := O0) (by kernel_rfl) Try.func19 rfl (rs := [.tmp 4, .tmp 5]) rfl (bad := []) (by kernel_rfl) _ _ (m := 39) rfl]
  cases hb : hasB gl up with
  | false =>
    rw [hb] at hh
    rw [if_neg (by decide)]
    simp (maxSteps := 1000000) (disch := first | decide | omega | (simp only [go_sem]; first | done | omega)) only [go_sem, Int.reduceToNat, Nat.reduceMul, Nat.reduceAdd, Nat.reduceSub, ↓EU_region, ↓EU_draw, hh]
    exact ⟨trivial, ⟨U, T, g, rl⟩, Mod.refl _ _⟩
  | true =>
    rw [hb] at hh
    rw [if_pos rfl]
    simp (maxSteps := 1000000) (disch := first | decide | omega | (simp only [go_sem]; first | done | omega)) only [go_sem, Int.reduceToNat, Nat.reduceMul, Nat.reduceAdd, Nat.reduceSub, ↓EU_region, ↓EU_draw, hh]
    repeat refine WPo_ob ?_
    refine (rpath_ev gl U T R up l hp hl h g rl).mono ?_
    rintro ⟨v, h1⟩ ⟨o1, f1, x1⟩
    simp only at o1 f1 x1
    obtain ⟨va, vc, rfl⟩ := o1.val
    have g1 := g.ext x1
    by_cases hd : 4 ≤ l.length
    · have d : decide (4 ≤ (l.length : Int)) = true := decide_eq_true (by omega)
      rw [if_pos hd]
      simp (maxSteps := 1000000) (disch := first | decide | omega | (simp only [go_sem]; first | done | omega)) only [go_sem, Int.reduceToNat, Nat.reduceMul, Nat.reduceAdd, Nat.reduceSub, ↓EU_region, ↓EU_draw, d]
      exact ⟨trivial, ⟨U, T, g1, rl⟩, x1.mod _⟩
    · have d : decide (4 ≤ (l.length : Int)) = false := decide_eq_false (by omega)
      rw [if_neg hd]
      simp (maxSteps := 1000000) (disch := first | decide | omega | (simp only [go_sem]; first | done | omega)) only [go_sem, Int.reduceToNat, Nat.reduceMul, Nat.reduceAdd, Nat.reduceSub, ↓EU_region, ↓EU_draw, d]
      repeat refine WPo_ob ?_
      refine (LP_rule (fun m st => ∃ (i : Nat) (tm : Fr), st = ⟨tm, h1, []⟩ ∧ m = 16 - i ∧ 1 ≤ i ∧ i ≤ 16 ∧ Fr.get tm 0 = ptr R 0 ∧ Fr.get tm 1 = .int .i64 up ∧ Fr.get tm 6 = .int .i64 i ∧ (∀ j, j < i → (gl.getD j (false, 0)).1 = true))
        (fun q => ∃ (tm : Fr) (h' : Heap), q.2 = ⟨tm, h', []⟩ ∧ ((q.1 = .exit 0 ∧ freeR gl 0 = none ∧ h' = h1) ∨ (q.1 = .ret ∧ ∃ k : Nat, k < 16 ∧ freeR gl 0 = some k ∧ Fr.get tm 4 = .int .i64 k ∧ Fr.get tm 5 = .int .i64 0 ∧ RR h' R (U.set k up) (T.set k true) ∧ Mod (fun j => j = R) h1 h'))) ?_ 15 _ _ ?_ ?_).mono ?_
      · rintro m _ ⟨i, tm, rfl, rfl, hi1, hi, g0, g1', g6, ha⟩
        by_cases q : i < 16
        · have d1 : decide ((i : Int) < 16) = true := decide_eq_true (by omega)
          have r1 := g1.in' (i := i) q
          rw [(rl i q).1] at r1
          have hwi : wrapF .i64 ((i : Int) + 1) = ((i + 1 : Nat) : Int) := by rw [wrap64 (by omega)]; rfl
          cases he : (gl.getD i (false, 0)).1 with
          | true =>
            rw [he] at r1
            simp (maxSteps := 1000000) (disch := first | decide | omega | (simp only [go_sem]; first | done | omega)) only [go_sem, Int.reduceToNat, Nat.reduceMul, Nat.reduceAdd, Nat.reduceSub, ↓EU_region, ↓EU_draw, g0, g1', g6, d1, r1, hwi, Nat.mul_one]
            refine ⟨16 - (i + 1), by omega, i + 1, _, rfl, rfl, by omega, by omega, by simp (maxSteps := 1000000) (disch := first | decide | omega | (simp only [go_sem]; first | done | omega)) only [go_sem, Int.reduceToNat, Nat.reduceMul, Nat.reduceAdd, Nat.reduceSub, ↓EU_region, ↓EU_draw, g0], by simp (maxSteps := 1000000) (disch := first | decide | omega | (simp only [go_sem]; first | done | omega)) only [go_sem, Int.reduceToNat, Nat.reduceMul, Nat.reduceAdd, Nat.reduceSub, ↓EU_region, ↓EU_draw, g1'], by simp (maxSteps := 1000000) (disch := first | decide | omega | (simp only [go_sem]; first | done | omega)) only [go_sem, Int.reduceToNat, Nat.reduceMul, Nat.reduceAdd, Nat.reduceSub, ↓EU_region, ↓EU_draw], fun j hj => ?_⟩
            by_cases e : j = i
            · subst e; exact he
            · exact ha j (by omega)
          | false =>
            rw [he] at r1
            have hfr := freeR_hit gl i 0 ha (by rw [gi.1]; exact q) he
            rw [Nat.zero_add] at hfr
            have gc := g1.1
            rw [gc, rdc1_c] at r1
            have hs1 : (rcE U T).set (16 + i) (.bool true) = rcE U (T.set i true) := rcE_setT g.2.1 true
            have hs2 : (rcE U (T.set i true)).set i (.int .i64 up) = rcE (U.set i up) (T.set i true) := rcE_setU g.2.1 q up
            have hl1 : 16 + i < (rcE U T).length := by rw [rcE_len g.2.1 g.2.2.1]; omega
            have hl2 : i < (rcE U (T.set i true)).length := by rw [rcE_len g.2.1 (by rw [List.length_set]; exact g.2.2.1)]; omega
            simp (maxSteps := 1000000) (disch := first | decide | omega | (simp only [go_sem]; first | done | omega)) only [go_sem, Int.reduceToNat, Nat.reduceMul, Nat.reduceAdd, Nat.reduceSub, ↓EU_region, ↓EU_draw, g0, g1', g6, d1, r1, gc, Nat.mul_one, Nat.zero_add, hs1, hs2]
            exact ⟨_, _, rfl, .inr ⟨trivial, i, q, hfr, by simp (maxSteps := 1000000) (disch := first | decide | omega | (simp only [go_sem]; first | done | omega)) only [go_sem, Int.reduceToNat, Nat.reduceMul, Nat.reduceAdd, Nat.reduceSub, ↓EU_region, ↓EU_draw], by simp (maxSteps := 1000000) (disch := first | decide | omega | (simp only [go_sem]; first | done | omega)) only [go_sem, Int.reduceToNat, Nat.reduceMul, Nat.reduceAdd, Nat.reduceSub, ↓EU_region, ↓EU_draw], ⟨get_set_same _ _ _, by rw [List.length_set]; exact g.2.1, by rw [List.length_set]; exact g.2.2.1, by rw [next_set]; exact g1.2.2.2⟩, (Mod.refl _ _).set _ _ (fun _ => rfl)⟩⟩
        · have d1 : decide ((i : Int) < 16) = false := decide_eq_false (by omega)
          have e6 : i = 16 := by omega
          subst e6
          simp (maxSteps := 1000000) (disch := first | decide | omega | (simp only [go_sem]; first | done | omega)) only [go_sem, Int.reduceToNat, Nat.reduceMul, Nat.reduceAdd, Nat.reduceSub, ↓EU_region, ↓EU_draw, g0, g1', g6, d1]
          exact ⟨_, h1, rfl, .inl ⟨trivial, freeR_miss gl 0 (fun j hj => ha j (by rw [← gi.1]; exact hj)), rfl⟩⟩
      · refine ⟨1, _, rfl, rfl, by decide, by decide, by simp (maxSteps := 1000000) (disch := first | decide | omega | (simp only [go_sem]; first | done | omega)) only [go_sem, Int.reduceToNat, Nat.reduceMul, Nat.reduceAdd, Nat.reduceSub, ↓EU_region, ↓EU_draw], by simp (maxSteps := 1000000) (disch := first | decide | omega | (simp only [go_sem]; first | done | omega)) only [go_sem, Int.reduceToNat, Nat.reduceMul, Nat.reduceAdd, Nat.reduceSub, ↓EU_region, ↓EU_draw], by simp (maxSteps := 1000000) (disch := first | decide | omega | (simp only [go_sem]; first | done | omega)) only [go_sem, Int.reduceToNat, Nat.reduceMul, Nat.reduceAdd, Nat.reduceSub, ↓EU_region, ↓EU_draw]; rfl, fun j hj => ?_⟩
        have : j = 0 := by omega
        subst this
        rw [gl0_there gi]
      · decide
      · rintro ⟨_, _⟩ ⟨tm, h', rfl, ⟨rfl, hf, rfl⟩ | ⟨rfl, k, hk, hf, g4, g5, gr, m⟩⟩
        · rw [hf]
          simp (maxSteps := 1000000) (disch := first | decide | omega | (simp only [go_sem]; first | done | omega)) only [go_sem, Int.reduceToNat, Nat.reduceMul, Nat.reduceAdd, Nat.reduceSub, ↓EU_region, ↓EU_draw]
          exact ⟨trivial, ⟨U, T, g1, rl⟩, x1.mod _⟩
        · rw [hf]
          simp (maxSteps := 1000000) (disch := first | decide | omega | (simp only [go_sem]; first | done | omega)) only [go_sem, Int.reduceToNat, Nat.reduceMul, Nat.reduceAdd, Nat.reduceSub, ↓EU_region, ↓EU_draw, g4, g5]
          refine ⟨trivial, ⟨_, _, gr, fun i hi => ?_⟩, (x1.mod _).trans m⟩
          rw [getD_setL (l := T) (by rw [g.2.2.1]; exact hk), getD_setL (l := gl) (by rw [gi.1]; exact hk), getD_setL (l := U) (by rw [g.2.1]; exact hk)]
          by_cases e : i = k
          · rw [if_pos e, if_pos e, if_pos e]; exact ⟨rfl, fun _ => rfl⟩
          · rw [if_neg e, if_neg e, if_neg e]; exact rl i hi
set_option maxHeartbeats 4000000 in
theorem rrem_ev (gl : List Gp) (gi : GI gl) (U : List Int) (T : List Bool) (R : Nat) (id : Int) (h : Heap) (g : RR h R U T) (rl : RL gl U T) :
    WPo (EF Try.prog O0 18 [ptr R 0, .int .i64 id] h) fun q => q.1 = .int .i64 (gremR gl id).1 ∧ (∃ U' T', RR q.2 R U' T' ∧ RL (gremR gl id).2 U' T') ∧ Mod (fun j => j = R) h q.2 := by
  unfold gremR
  have hh := rhas_ev gl U T R id h g rl
  rw [EF_body (O := O0) (by kernel_rfl) Try.func18 rfl (rs := [.tmp 4]) rfl (bad := []) (by kernel_rfl) _ _ (m := 37) rfl]
  by_cases h0 : id = 0
  · have d : decide (id = 0) = true := decide_eq_true h0
    rw [if_pos h0]
    simp (maxSteps := 1000000) (disch := first | decide | omega | (simp only [go_sem]; first | done | omega)) only [go_sem, Int.reduceToNat, Nat.reduceMul, Nat.reduceAdd, Nat.reduceSub, ↓EU_region, ↓EU_draw, d]
    exact ⟨trivial, ⟨U, T, g, rl⟩, Mod.refl _ _⟩
  · have d : decide (id = 0) = false := decide_eq_false h0
    rw [if_neg h0]
    cases hb : hasB gl id with
    | false =>
      rw [hb] at hh
      rw [if_neg (by decide)]
      simp (maxSteps := 1000000) (disch := first | decide | omega | (simp only [go_sem]; first | done | omega)) only [go_sem, Int.reduceToNat, Nat.reduceMul, Nat.reduceAdd, Nat.reduceSub, ↓EU_region, ↓EU_draw, d, hh]
      exact ⟨trivial, ⟨U, T, g, rl⟩, Mod.refl _ _⟩
    | true =>
      rw [hb] at hh
      rw [if_pos rfl]
      have hbb := hasB_iff.1 hb
      simp (maxSteps := 1000000) (disch := first | decide | omega | (simp only [go_sem]; first | done | omega)) only [go_sem, Int.reduceToNat, Nat.reduceMul, Nat.reduceAdd, Nat.reduceSub, ↓EU_region, ↓EU_draw, d, hh]
      repeat refine WPo_ob ?_
      refine (LP_rule (fun m st => ∃ (i : Nat) (tm : Fr), st = ⟨tm, h, []⟩ ∧ m = 16 - i ∧ 1 ≤ i ∧ i ≤ 16 ∧ Fr.get tm 0 = ptr R 0 ∧ Fr.get tm 1 = .int .i64 id ∧ Fr.get tm 5 = .int .i64 i ∧ (∀ j, j < i → kid id (gl.getD j (false, 0)) = false))
        (fun q => ∃ (tm : Fr), q.2 = ⟨tm, h, []⟩ ∧ ((q.1 = .exit 0 ∧ gl.any (kid id) = false ∧ Fr.get tm 0 = ptr R 0 ∧ Fr.get tm 1 = .int .i64 id) ∨ (q.1 = .ret ∧ gl.any (kid id) = true ∧ Fr.get tm 4 = .int .i64 4))) ?_ 15 _ _ ?_ ?_).mono ?_
      · rintro m _ ⟨i, tm, rfl, rfl, hi1, hi, g0, g1', g5, ha⟩
        by_cases q : i < 16
        · have d1 : decide ((i : Int) < 16) = true := decide_eq_true (by omega)
          have r1 := g.in' (i := i) q
          have r2 := g.up (i := i) q
          rw [(rl i q).1] at r1
          have rl2 := (rl i q).2
          have hwi : wrapF .i64 ((i : Int) + 1) = ((i + 1 : Nat) : Int) := by rw [wrap64 (by omega)]; rfl
          generalize he : gl.getD i (false, 0) = x at r1 rl2
          obtain ⟨xt, xu⟩ := x
          have hno : kid id (xt, xu) = false → ∀ j, j < i + 1 → kid id (gl.getD j (false, 0)) = false := fun hk j hj => by
            by_cases e : j = i
            · subst e; rw [he]; exact hk
            · exact ha j (by omega)
          cases xt with
          | false =>
            simp (maxSteps := 1000000) (disch := first | decide | omega | (simp only [go_sem]; first | done | omega)) only [go_sem, Int.reduceToNat, Nat.reduceMul, Nat.reduceAdd, Nat.reduceSub, ↓EU_region, ↓EU_draw, g0, g1', g5, d1, r1, hwi, Nat.mul_one]
            exact ⟨16 - (i + 1), by omega, i + 1, _, rfl, rfl, by omega, by omega, by simp (maxSteps := 1000000) (disch := first | decide | omega | (simp only [go_sem]; first | done | omega)) only [go_sem, Int.reduceToNat, Nat.reduceMul, Nat.reduceAdd, Nat.reduceSub, ↓EU_region, ↓EU_draw, g0], by simp (maxSteps := 1000000) (disch := first | decide | omega | (simp only [go_sem]; first | done | omega)) only [go_sem, Int.reduceToNat, Nat.reduceMul, Nat.reduceAdd, Nat.reduceSub, ↓EU_region, ↓EU_draw, g1'], by simp (maxSteps := 1000000) (disch := first | decide | omega | (simp only [go_sem]; first | done | omega)) only [go_sem, Int.reduceToNat, Nat.reduceMul, Nat.reduceAdd, Nat.reduceSub, ↓EU_region, ↓EU_draw], hno rfl⟩
          | true =>
            rw [rl2 rfl] at r2
            by_cases q2 : xu = id
            · have d2 : decide (xu = id) = true := decide_eq_true q2
              simp (maxSteps := 1000000) (disch := first | decide | omega | (simp only [go_sem]; first | done | omega)) only [go_sem, Int.reduceToNat, Nat.reduceMul, Nat.reduceAdd, Nat.reduceSub, ↓EU_region, ↓EU_draw, g0, g1', g5, d1, r1, r2, d2, Nat.mul_one, Nat.zero_add]
              exact ⟨_, rfl, .inr ⟨trivial, any_yes (j := i) (by rw [gi.1]; exact q) (by rw [he]; unfold kid; rw [d2]; rfl), by simp (maxSteps := 1000000) (disch := first | decide | omega | (simp only [go_sem]; first | done | omega)) only [go_sem, Int.reduceToNat, Nat.reduceMul, Nat.reduceAdd, Nat.reduceSub, ↓EU_region, ↓EU_draw]⟩⟩
            · have d2 : decide (xu = id) = false := decide_eq_false q2
              simp (maxSteps := 1000000) (disch := first | decide | omega | (simp only [go_sem]; first | done | omega)) only [go_sem, Int.reduceToNat, Nat.reduceMul, Nat.reduceAdd, Nat.reduceSub, ↓EU_region, ↓EU_draw, g0, g1', g5, d1, r1, r2, d2, hwi, Nat.mul_one, Nat.zero_add]
              exact ⟨16 - (i + 1), by omega, i + 1, _, rfl, rfl, by omega, by omega, by simp (maxSteps := 1000000) (disch := first | decide | omega | (simp only [go_sem]; first | done | omega)) only [go_sem, Int.reduceToNat, Nat.reduceMul, Nat.reduceAdd, Nat.reduceSub, ↓EU_region, ↓EU_draw, g0], by simp (maxSteps := 1000000) (disch := first | decide | omega | (simp only [go_sem]; first | done | omega)) only [go_sem, Int.reduceToNat, Nat.reduceMul, Nat.reduceAdd, Nat.reduceSub, ↓EU_region, ↓EU_draw, g1'], by simp (maxSteps := 1000000) (disch := first | decide | omega | (simp only [go_sem]; first | done | omega)) only [go_sem, Int.reduceToNat, Nat.reduceMul, Nat.reduceAdd, Nat.reduceSub, ↓EU_region, ↓EU_draw], hno (by unfold kid; rw [d2]; rfl)⟩
        · have d1 : decide ((i : Int) < 16) = false := decide_eq_false (by omega)
          have e6 : i = 16 := by omega
          subst e6
          simp (maxSteps := 1000000) (disch := first | decide | omega | (simp only [go_sem]; first | done | omega)) only [go_sem, Int.reduceToNat, Nat.reduceMul, Nat.reduceAdd, Nat.reduceSub, ↓EU_region, ↓EU_draw, g0, g1', g5, d1]
          exact ⟨_, rfl, .inl ⟨trivial, any_no (fun j hj => ha j (by rw [← gi.1]; exact hj)), by simp (maxSteps := 1000000) (disch := first | decide | omega | (simp only [go_sem]; first | done | omega)) only [go_sem, Int.reduceToNat, Nat.reduceMul, Nat.reduceAdd, Nat.reduceSub, ↓EU_region, ↓EU_draw, g0], by simp (maxSteps := 1000000) (disch := first | decide | omega | (simp only [go_sem]; first | done | omega)) only [go_sem, Int.reduceToNat, Nat.reduceMul, Nat.reduceAdd, Nat.reduceSub, ↓EU_region, ↓EU_draw, g1']⟩⟩
      · refine ⟨1, _, rfl, rfl, by decide, by decide, by simp (maxSteps := 1000000) (disch := first | decide | omega | (simp only [go_sem]; first | done | omega)) only [go_sem, Int.reduceToNat, Nat.reduceMul, Nat.reduceAdd, Nat.reduceSub, ↓EU_region, ↓EU_draw], by simp (maxSteps := 1000000) (disch := first | decide | omega | (simp only [go_sem]; first | done | omega)) only [go_sem, Int.reduceToNat, Nat.reduceMul, Nat.reduceAdd, Nat.reduceSub, ↓EU_region, ↓EU_draw], by simp (maxSteps := 1000000) (disch := first | decide | omega | (simp only [go_sem]; first | done | omega)) only [go_sem, Int.reduceToNat, Nat.reduceMul, Nat.reduceAdd, Nat.reduceSub, ↓EU_region, ↓EU_draw]; rfl, fun j hj => ?_⟩
        have : j = 0 := by omega
        subst this
        rw [gl0_there gi]
        unfold kid
        rw [decide_eq_false (by show ¬ (-1 : Int) = id; omega)]; rfl
      · decide
      · rintro ⟨_, _⟩ ⟨tm, rfl, ⟨rfl, hf, k0, k1⟩ | ⟨rfl, hf, k4⟩⟩
        · rw [hf, if_neg (by decide)]
          have gc := g.1
          have d0 : decide (0 ≤ id) = true := decide_eq_true hbb.1
          have d1 : decide (id < 16) = true := decide_eq_true hbb.2.1
          have hs1 : (rcE U T).set (16 + id.toNat) (.bool false) = rcE U (T.set id.toNat false) := rcE_setT g.2.1 false
          have hl1 : 16 + id.toNat < (rcE U T).length := by rw [rcE_len g.2.1 g.2.2.1]; omega
          simp (maxSteps := 1000000) (disch := first | decide | omega | (simp only [go_sem]; first | done | omega)) only [go_sem, Int.reduceToNat, Nat.reduceMul, Nat.reduceAdd, Nat.reduceSub, ↓EU_region, ↓EU_draw, k0, k1, gc, d0, d1, Nat.mul_one, hs1]
          refine ⟨trivial, ⟨U, T.set id.toNat false, ⟨get_set_same _ _ _, g.2.1, by rw [List.length_set]; exact g.2.2.1, by rw [next_set]; exact g.2.2.2⟩, fun i hi => ?_⟩, (Mod.refl _ _).set _ _ (fun _ => rfl)⟩
          rw [getD_setL (l := T) (by rw [g.2.2.1]; omega), getD_setL (l := gl) (by rw [gi.1]; omega)]
          by_cases e : i = id.toNat
          · rw [if_pos e, if_pos e]; exact ⟨rfl, fun q => by cases q⟩
          · rw [if_neg e, if_neg e]; exact rl i hi
        · rw [hf, if_pos rfl]
          simp (maxSteps := 1000000) (disch := first | decide | omega | (simp only [go_sem]; first | done | omega)) only [go_sem, Int.reduceToNat, Nat.reduceMul, Nat.reduceAdd, Nat.reduceSub, ↓EU_region, ↓EU_draw, k4]
          exact ⟨trivial, ⟨U, T, g, rl⟩, Mod.refl _ _⟩
end Go.Proofs.Ytagjgigknnaphaa.EV
