/- GroupsChains, plainly. No condition. -/
import Derived.Test.YtagjgigknnaphaaGrp8
namespace Go.Proofs.Ytagjgigknnaphaa.EV
open Go Go.Proofs
set_option linter.unusedVariables false
set_option linter.unusedSimpArgs false
set_option maxRecDepth 100000
set_option pp.deepTerms false
set_option pp.deepTerms.threshold 20
theorem SL.veq {α : Type} {e : α → List Value} {es : Nat} {h : Heap} {v : Value} {l : List α} (s : SL e es h v l) : veq v v = true := by
  cases s with
  | nil => exact veq_slN _ _
  | mk b o c l cs hb hc hl hx hcap hq => exact veq_slS _ _ _ _
theorem cut_ext {P : Program} {h h' : Heap} {t : TypeId} {b o m c : Nat} {lo hi mx : Option Value} {u : Value} (hg : h'.get b = h.get b) (e : CUT P h t (.slice (some ⟨b, o, none⟩) m c) lo hi mx = some (u, h)) : CUT P h' t (.slice (some ⟨b, o, none⟩) m c) lo hi mx = some (u, h') := by
  rw [CUT_sl] at e ⊢
  cases hs : slT P t with
  | none => rw [hs] at e; cases e
  | some sz =>
    rw [hs, ob_some] at e
    rw [ob_some]
    cases hc : cutEnds m (c / 2) lo hi mx with
    | none => rw [hc] at e; cases e
    | some q =>
      rw [hc, ob_some] at e
      rw [ob_some]
      unfold evCutSl at e ⊢
      rw [hg]
      cases hx : (q.2.2.2 || Nat.beq (c % 2) 1) with
      | true =>
        rw [hx, cnd_true] at e
        rw [cnd_true]
        cases e
        rfl
      | false =>
        rw [hx, cnd_false] at e
        rw [cnd_false]
        cases hk : cellsEs (h.get b) with
        | none => rw [hk] at e; cases e
        | some es =>
          rw [hk, ob_some] at e
          rw [ob_some]
          cases hz : Nat.beq es sz with
          | false => rw [hz] at e; cases e
          | true =>
            rw [hz] at e
            cases e
            rfl
set_option maxHeartbeats 8000000 in
theorem law_GroupsChains (h00 : Heap) (sl : Value) (ll : List Int) (hl : SL (intE .i64) 1 h00 sl ll) (wl : ∀ z ∈ ll, (Lit.int .i64 z).wf = true) :
    WPo (EF Try.prog O0 4 [sl] h00) fun q => q.1 = .bool true := by
  rw [EF_body (O := O0) (by kernel_rfl) Try.func4 rfl (rs := [.tmp 2]) rfl (bad := [15, 19]) (by kernel_rfl) _ _ (m := 124) rfl]
  obtain ⟨al, kl, hv⟩ := hl.val
  subst hv
  simp (maxSteps := 1000000) (disch := first | decide | omega | (simp only [go_sem]; first | done | omega)) only [go_sem, Int.reduceToNat, Nat.reduceMul, Nat.reduceAdd, Nat.reduceSub, ↓EU_region, ↓EU_draw, awake_ev]
  ((repeat refine WPo_ob ?_); (first | refine WPo_cond (fun b1 => ?_) (fun b1 => ?_) | refine WPo_gard (fun b1 => ?_) (fun b1 => ?_) | refine WPo_gardT (fun b1 => ?_) (fun b1 => ?_)) <;> (try simp only [Bool.not_eq_true', Bool.not_eq_false'] at b1))
  · simp (maxSteps := 1000000) (disch := first | decide | omega | (simp only [go_sem]; first | done | omega)) only [go_sem, Int.reduceToNat, Nat.reduceMul, Nat.reduceAdd, Nat.reduceSub, ↓EU_region, ↓EU_draw, b1]
  · have b1' := b1
    simp only [decide_eq_false_iff_not] at b1'
    simp (maxSteps := 1000000) (disch := first | decide | omega | (simp only [go_sem]; first | done | omega)) only [go_sem, Int.reduceToNat, Nat.reduceMul, Nat.reduceAdd, Nat.reduceSub, ↓EU_region, ↓EU_draw, b1]
    repeat refine WPo_ob ?_
    refine (gnew_ev h00).mono ?_
    rintro ⟨v, h1⟩ ⟨rfl, gr1, x1⟩
    simp only at gr1 x1
    simp (maxSteps := 1000000) (disch := first | decide | omega | (simp only [go_sem]; first | done | omega)) only [go_sem, Int.reduceToNat, Nat.reduceMul, Nat.reduceAdd, Nat.reduceSub, ↓EU_region, ↓EU_draw]
    repeat refine WPo_ob ?_
    refine (LP_rule (fun m st => ∃ (i : Nat) (tm : Fr) (h' : Heap) (gl : List Gp), st = ⟨tm, h', []⟩ ∧ m = ll.length - i ∧ i ≤ ll.length ∧ Fr.get tm 0 = .slice al ll.length kl ∧ Fr.get tm 3 = ptr h00.next 0 ∧ Fr.get tm 4 = .int .i64 i ∧ GR h' h00.next gl ∧ GI gl ∧ Ext h00 h')
      (fun q => ∃ (tm : Fr) (h' : Heap) (gl : List Gp), q.2 = ⟨tm, h', []⟩ ∧ q.1 = .exit 0 ∧ Fr.get tm 3 = ptr h00.next 0 ∧ GR h' h00.next gl ∧ GI gl) ?_ ll.length _ _ ?_ ?_).mono ?_
    · rintro m _ ⟨i, tm, h', gl, rfl, rfl, hi, g0, g3, g4, gr, gi, x'⟩
      by_cases q : i < ll.length
      · have d1 : decide ((i : Int) < ll.length) = true := decide_eq_true (by omega)
        obtain ⟨x, hx⟩ : ∃ x, ll[i]? = some x := ⟨_, List.getElem?_eq_getElem q⟩
        obtain ⟨bb, o, c', e, hb', hrd, hr⟩ := (hl.ext x').at hx rfl
        cases e
        have hr0 := hr 0 _ rfl
        rw [add_z] at hr0
        obtain ⟨lu, pu, lu4, _⟩ := gi.2.2 x
        have hwi : wrapF .i64 ((i : Int) + 1) = ((i + 1 : Nat) : Int) := by rw [wrap64 (by omega)]; rfl
        simp (maxSteps := 1000000) (disch := first | decide | omega | (simp only [go_sem]; first | done | omega)) only [go_sem, Int.reduceToNat, Nat.reduceMul, Nat.reduceAdd, Nat.reduceSub, ↓EU_region, ↓EU_draw, g0, g3, g4, d1, hr0]
        repeat refine WPo_ob ?_
        refine (gadd_ev gl h00.next x lu pu (by omega) h' gr).mono ?_
        rintro ⟨v, h2⟩ ⟨rfl, gr2, m2⟩
        simp only at gr2 m2
        have gi2 := GI_add gi x pu
        simp (maxSteps := 1000000) (disch := first | decide | omega | (simp only [go_sem]; first | done | omega)) only [go_sem, Int.reduceToNat, Nat.reduceMul, Nat.reduceAdd, Nat.reduceSub, ↓EU_region, ↓EU_draw, g4, hwi]
        refine ⟨ll.length - (i + 1), by omega, i + 1, _, h2, _, rfl, rfl, by omega, by simp (maxSteps := 1000000) (disch := first | decide | omega | (simp only [go_sem]; first | done | omega)) only [go_sem, Int.reduceToNat, Nat.reduceMul, Nat.reduceAdd, Nat.reduceSub, ↓EU_region, ↓EU_draw, g0], by simp (maxSteps := 1000000) (disch := first | decide | omega | (simp only [go_sem]; first | done | omega)) only [go_sem, Int.reduceToNat, Nat.reduceMul, Nat.reduceAdd, Nat.reduceSub, ↓EU_region, ↓EU_draw, g3], by simp (maxSteps := 1000000) (disch := first | decide | omega | (simp only [go_sem]; first | done | omega)) only [go_sem, Int.reduceToNat, Nat.reduceMul, Nat.reduceAdd, Nat.reduceSub, ↓EU_region, ↓EU_draw], gr2, gi2, ?_⟩
        exact Mod.ext ((x'.mod (fun _ => False)).drop (m2.mono fun j _ q => .inr (by omega)))
      · have d1 : decide ((i : Int) < ll.length) = false := decide_eq_false (by omega)
        simp (maxSteps := 1000000) (disch := first | decide | omega | (simp only [go_sem]; first | done | omega)) only [go_sem, Int.reduceToNat, Nat.reduceMul, Nat.reduceAdd, Nat.reduceSub, ↓EU_region, ↓EU_draw, g0, g4, d1]
        exact ⟨_, h', gl, rfl, trivial, by simp (maxSteps := 1000000) (disch := first | decide | omega | (simp only [go_sem]; first | done | omega)) only [go_sem, Int.reduceToNat, Nat.reduceMul, Nat.reduceAdd, Nat.reduceSub, ↓EU_region, ↓EU_draw, g3], gr, gi⟩
    · exact ⟨0, _, h1, gl0, rfl, rfl, by omega, by simp (maxSteps := 1000000) (disch := first | decide | omega | (simp only [go_sem]; first | done | omega)) only [go_sem, Int.reduceToNat, Nat.reduceMul, Nat.reduceAdd, Nat.reduceSub, ↓EU_region, ↓EU_draw], by simp (maxSteps := 1000000) (disch := first | decide | omega | (simp only [go_sem]; first | done | omega)) only [go_sem, Int.reduceToNat, Nat.reduceMul, Nat.reduceAdd, Nat.reduceSub, ↓EU_region, ↓EU_draw], by simp (maxSteps := 1000000) (disch := first | decide | omega | (simp only [go_sem]; first | done | omega)) only [go_sem, Int.reduceToNat, Nat.reduceMul, Nat.reduceAdd, Nat.reduceSub, ↓EU_region, ↓EU_draw]; rfl, gr1, GI0, x1⟩
    · omega
    · rintro ⟨_, _⟩ ⟨tm, h2, gl, rfl, rfl, g3, gr, gi⟩
      have hz : hasB gl 0 = true := hasB_iff.2 ⟨by decide, by decide, by rw [gi.2.1]⟩
      have hlen := allN_len gl 16
      have hhas := allN_has gl 16
      obtain ⟨m0, hm0⟩ := allN_zero hz 15
      simp (maxSteps := 1000000) (disch := first | decide | omega | (simp only [go_sem]; first | done | omega)) only [go_sem, Int.reduceToNat, Nat.reduceMul, Nat.reduceAdd, Nat.reduceSub, ↓EU_region, ↓EU_draw, g3]
      repeat refine WPo_ob ?_
      refine (all_ev gl h00.next h2 gr).mono ?_
      rintro ⟨v, h3⟩ ⟨op, fp, x3⟩
      simp only at op fp x3
      generalize allN gl 16 = L at *
      obtain ⟨pva, pvc, rfl⟩ := op.val
      have gr3 := gr.ext x3
      simp (maxSteps := 1000000) (disch := first | decide | omega | (simp only [go_sem]; first | done | omega)) only [go_sem, Int.reduceToNat, Nat.reduceMul, Nat.reduceAdd, Nat.reduceSub, ↓EU_region, ↓EU_draw]
      repeat refine WPo_ob ?_
      refine (LP_rule (fun m st => ∃ (i : Nat) (tm : Fr) (h' : Heap), st = ⟨tm, h', []⟩ ∧ m = L.length - i ∧ i ≤ L.length ∧ Fr.get tm 3 = ptr h00.next 0 ∧ Fr.get tm 5 = .slice pva L.length pvc ∧ Fr.get tm 6 = .int .i64 i ∧ Ext h3 h')
        (fun q => ∃ (tm : Fr) (h' : Heap), q.2 = ⟨tm, h', []⟩ ∧ q.1 = .exit 2 ∧ Fr.get tm 5 = .slice pva L.length pvc ∧ Ext h3 h') ?_ L.length _ _ ?_ ?_).mono ?_
      · clear g3
        rintro m _ ⟨i, tm, h', rfl, rfl, hi, g3, g5, g6, x'⟩
        by_cases q : i < L.length
        · have d1 : decide ((i : Int) < L.length) = true := decide_eq_true (by omega)
          obtain ⟨x, hx⟩ : ∃ x, L[i]? = some x := ⟨_, List.getElem?_eq_getElem q⟩
          have hxh := hhas x (List.mem_of_getElem? hx)
          obtain ⟨l, pl, l4, l0⟩ := gi.2.2 x
          obtain ⟨mm, hmm, pmm⟩ : ∃ mm, l = x :: mm ∧ PA gl (gat gl x).2 mm := by
            rcases pl.head with ⟨q', _⟩ | ⟨_, mm, e1, e2⟩
            · rw [hxh] at q'; cases q'
            · exact ⟨mm, e1, e2⟩
          have hlp : 1 ≤ l.length := by rw [hmm]; simp
          have hlast := l0 (by rw [hmm]; simp)
          obtain ⟨bb, o, c', e, hb', hrd, hr⟩ := (op.sl.ext x').at hx rfl
          cases e
          have hr0 := hr 0 _ rfl
          rw [add_z] at hr0
          have hwi : wrapF .i64 ((i : Int) + 1) = ((i + 1 : Nat) : Int) := by rw [wrap64 (by omega)]; rfl
          have gr4 := gr3.ext x'
          simp (maxSteps := 1000000) (disch := first | decide | omega | (simp only [go_sem]; first | done | omega)) only [go_sem, Int.reduceToNat, Nat.reduceMul, Nat.reduceAdd, Nat.reduceSub, ↓EU_region, ↓EU_draw, g3, g5, g6, d1, hr0]
          repeat refine WPo_ob ?_
          refine (chain_ev gl h00.next x l pl (by omega) h' gr4).mono ?_
          rintro ⟨v, h5⟩ ⟨o5, f5, x5⟩
          simp only at o5 f5 x5
          have x5' := x'.trans x5
          have gr5 := gr4.ext x5
          -- what stands in it
          have hl0 : l[0]? = some x := by rw [hmm]; rfl
          obtain ⟨b5, p5, c5, e, hb5, _, hr5⟩ := o5.sl.at hl0 rfl
          subst e
          have r5 := hr5 0 _ rfl
          have hll : l[l.length - 1]? = some 0 := by rw [← List.getLast?_eq_getElem?]; exact hlast
          obtain ⟨b6, p6, c6, e, _, _, hr6⟩ := o5.sl.at hll rfl
          cases e
          have r6 := hr6 0 _ rfl
          obtain ⟨b7, p7, c7, e, _, _, hr7⟩ := (op.sl.ext x5').at hx rfl
          cases e
          have r7 := hr7 0 _ rfl
          rw [Nat.add_zero] at r6 r7
          simp only [Nat.zero_mul, Nat.add_zero] at r5
          have dl1 : decide ((l.length : Int) < 1) = false := decide_eq_false (by omega)
          have dl4 : decide (4 < (l.length : Int)) = false := decide_eq_false (by omega)
          have dz : decide (0 ≤ (l.length : Int) - 1) = true := decide_eq_true (by omega)
          have ewl : wrapF .i64 ((l.length : Int) - 1) = ((l.length - 1 : Nat) : Int) := by rw [wrap64 (by omega)]; omega
          have ewl' : (l.length : Int) - 1 = ((l.length - 1 : Nat) : Int) := by omega
          have ds : ∀ x : Int, decide (x = x) = true := fun x => decide_eq_true rfl
          have d0l : decide (0 < (l.length : Int)) = true := decide_eq_true (by omega)
          simp (maxSteps := 1000000) (disch := first | decide | omega | (simp only [go_sem]; first | done | omega)) only [go_sem, Int.reduceToNat, Nat.reduceMul, Nat.reduceAdd, Nat.reduceSub, ↓EU_region, ↓EU_draw]
          rw [EU_bad _ _ rfl, EC_tab (tab := [(false, none), (false, none), (false, none), (false, none), (false, none), (false, none), (false, none), (false, none), (false, none), (false, none), (false, none), (false, none), (false, none), (false, none), (false, none), (false, none), (false, none), (false, none), (false, none), (false, none), (false, none), (false, none), (false, none), (false, none), (false, none), (false, none), (false, none), (false, none), (false, none), (false, none), (false, none), (false, none), (false, none), (true, none), (false, none), (false, (some (0, 1))), (false, none), (false, none)]) (by kernel_rfl)]
          simp (maxSteps := 1000000) (disch := first | decide | omega | (simp only [go_sem]; first | done | omega)) only [go_sem, Int.reduceToNat, Nat.reduceMul, Nat.reduceAdd, Nat.reduceSub, ↓EU_region, ↓EU_draw, g3, g5, g6, dl1, dl4, dz, ewl, ewl', ds, r5, r6, r7, d0l]
          repeat refine WPo_ob ?_
          refine (depth_ev gl h00.next x l pl (by omega) h5 gr5).bind fun h6 x6 => ?_
          have gr6 := gr5.ext x6
          have x6' := x5'.trans x6
          simp (maxSteps := 1000000) (disch := first | decide | omega | (simp only [go_sem]; first | done | omega)) only [go_sem, Int.reduceToNat, Nat.reduceMul, Nat.reduceAdd, Nat.reduceSub, ↓EU_region, ↓EU_draw, g3, g5, g6, dl1, dl4, ds]
          by_cases hq : 1 < l.length
          · have dq : decide (1 < (l.length : Int)) = true := decide_eq_true (by omega)
            obtain ⟨u, m2, hmu⟩ : ∃ u m2, mm = u :: m2 := by
              cases mm with
              | nil => rw [hmm] at hq; simp at hq
              | cons u m2 => exact ⟨u, m2, rfl⟩
            have hux : u = (gat gl x).2 := by
              rcases pmm.head with ⟨_, e⟩ | ⟨_, m3, e, _⟩
              · rw [hmu] at e; cases e
              · rw [hmu] at e; cases e; rfl
            have hx0 : x ≠ 0 := fun e => by
              subst e
              rw [gi.2.1] at pmm
              rcases pmm.head with ⟨_, e⟩ | ⟨e, _⟩
              · rw [hmu] at e; cases e
              · cases e
            have hup := gup_ev gl h00.next x h6 gr6
            rw [hxh, decide_eq_false hx0, ← hux] at hup
            simp only [Bool.not_false, Bool.and_self, if_true] at hup
            rw [← hux] at pmm
            obtain ⟨b8, p8, c8, e, _, _, hr8⟩ := (op.sl.ext x6').at hx rfl
            cases e
            have r8 := hr8 0 _ rfl
            have hl1 : l[1]? = some u := by rw [hmm, hmu]; rfl
            obtain ⟨b9, p9, c9, e, _, _, hr9⟩ := (o5.sl.ext x6).at hl1 rfl
            cases e
            have r9 := hr9 0 _ rfl
            rw [Nat.add_zero] at r8 r9
            have hmml : mm.length ≤ 4 := by rw [hmm] at l4; simp at l4; omega
            have d1l : decide (1 < (l.length : Int)) = true := dq
            simp (maxSteps := 1000000) (disch := first | decide | omega | (simp only [go_sem]; first | done | omega)) only [go_sem, Int.reduceToNat, Nat.reduceMul, Nat.reduceAdd, Nat.reduceSub, ↓EU_region, ↓EU_draw, g3, g5, g6, dq, r8, hup]
            rw [EU_bad _ _ rfl, EC_tab (tab := [(false, none), (false, none), (false, none), (false, none), (false, none), (false, none), (false, none), (false, none), (false, none), (false, none), (false, none), (false, none), (true, none), (false, none), (false, (some (0, 1))), (true, none), (false, none), (false, none)]) (by kernel_rfl)]
            simp (maxSteps := 1000000) (disch := first | decide | omega | (simp only [go_sem]; first | done | omega)) only [go_sem, Int.reduceToNat, Nat.reduceMul, Nat.reduceAdd, Nat.reduceSub, ↓EU_region, ↓EU_draw, g3, g5, g6, r9, ds, d1l]
            repeat refine WPo_ob ?_
            refine (chain_ev gl h00.next u mm pmm (by omega) h6 gr6).mono ?_
            rintro ⟨v7, h7⟩ ⟨o7, f7, x7⟩
            simp only at o7 f7 x7
            obtain ⟨a7, c7', rfl⟩ := o7.val
            obtain ⟨u1, hu1, su1, _⟩ := cut_from fc_sl_22 (o5.sl.ext (x6.trans x7)) .i64 1 1 rfl (by omega)
            obtain ⟨u2, hu2, _, _⟩ := cut_from fc_sl_22 (o5.sl.ext x6) .i64 1 1 rfl (by omega)
            have hdr : l.drop 1 = mm := by rw [hmm]; rfl
            rw [hdr] at su1
            have hin := ints_ev mm mm _ u1 h7 o7.sl su1 (by omega) (by omega)
            rw [decide_eq_true rfl] at hin
            have hb6 := o5.sl.ext x6
            have hnb : b5 < h6.next := by have := (o5.lt (i := b5) rfl); have := x6.le; omega
            have hu3 := cut_ext (x7.old b5 hnb) hu2
            rw [hu1] at hu3
            cases hu3
            have hvq := su1.veq
            simp (maxSteps := 1000000) (disch := first | decide | omega | (simp only [go_sem]; first | done | omega)) only [go_sem, Int.reduceToNat, Nat.reduceMul, Nat.reduceAdd, Nat.reduceSub, ↓EU_region, ↓EU_draw, g3, g5, g6, hu1, hu2, hin, hwi, hvq]
            exact ⟨L.length - (i + 1), by omega, i + 1, _, h7, rfl, rfl, by omega, by simp (maxSteps := 1000000) (disch := first | decide | omega | (simp only [go_sem]; first | done | omega)) only [go_sem, Int.reduceToNat, Nat.reduceMul, Nat.reduceAdd, Nat.reduceSub, ↓EU_region, ↓EU_draw, g3], by simp (maxSteps := 1000000) (disch := first | decide | omega | (simp only [go_sem]; first | done | omega)) only [go_sem, Int.reduceToNat, Nat.reduceMul, Nat.reduceAdd, Nat.reduceSub, ↓EU_region, ↓EU_draw, g5], by simp (maxSteps := 1000000) (disch := first | decide | omega | (simp only [go_sem]; first | done | omega)) only [go_sem, Int.reduceToNat, Nat.reduceMul, Nat.reduceAdd, Nat.reduceSub, ↓EU_region, ↓EU_draw], x6'.trans x7⟩
          · have dq : decide (1 < (l.length : Int)) = false := decide_eq_false (by omega)
            simp (maxSteps := 1000000) (disch := first | decide | omega | (simp only [go_sem]; first | done | omega)) only [go_sem, Int.reduceToNat, Nat.reduceMul, Nat.reduceAdd, Nat.reduceSub, ↓EU_region, ↓EU_draw, g3, g5, g6, dq, hwi]
            exact ⟨L.length - (i + 1), by omega, i + 1, _, h6, rfl, rfl, by omega, by simp (maxSteps := 1000000) (disch := first | decide | omega | (simp only [go_sem]; first | done | omega)) only [go_sem, Int.reduceToNat, Nat.reduceMul, Nat.reduceAdd, Nat.reduceSub, ↓EU_region, ↓EU_draw, g3], by simp (maxSteps := 1000000) (disch := first | decide | omega | (simp only [go_sem]; first | done | omega)) only [go_sem, Int.reduceToNat, Nat.reduceMul, Nat.reduceAdd, Nat.reduceSub, ↓EU_region, ↓EU_draw, g5], by simp (maxSteps := 1000000) (disch := first | decide | omega | (simp only [go_sem]; first | done | omega)) only [go_sem, Int.reduceToNat, Nat.reduceMul, Nat.reduceAdd, Nat.reduceSub, ↓EU_region, ↓EU_draw], x6'⟩
        · have d1 : decide ((i : Int) < L.length) = false := decide_eq_false (by omega)
          simp (maxSteps := 1000000) (disch := first | decide | omega | (simp only [go_sem]; first | done | omega)) only [go_sem, Int.reduceToNat, Nat.reduceMul, Nat.reduceAdd, Nat.reduceSub, ↓EU_region, ↓EU_draw, g3, g5, g6, d1]
          exact ⟨_, h', rfl, trivial, by simp (maxSteps := 1000000) (disch := first | decide | omega | (simp only [go_sem]; first | done | omega)) only [go_sem, Int.reduceToNat, Nat.reduceMul, Nat.reduceAdd, Nat.reduceSub, ↓EU_region, ↓EU_draw, g5], x'⟩
      · exact ⟨0, _, h3, rfl, rfl, by omega, by simp (maxSteps := 1000000) (disch := first | decide | omega | (simp only [go_sem]; first | done | omega)) only [go_sem, Int.reduceToNat, Nat.reduceMul, Nat.reduceAdd, Nat.reduceSub, ↓EU_region, ↓EU_draw, g3], by simp (maxSteps := 1000000) (disch := first | decide | omega | (simp only [go_sem]; first | done | omega)) only [go_sem, Int.reduceToNat, Nat.reduceMul, Nat.reduceAdd, Nat.reduceSub, ↓EU_region, ↓EU_draw], by simp (maxSteps := 1000000) (disch := first | decide | omega | (simp only [go_sem]; first | done | omega)) only [go_sem, Int.reduceToNat, Nat.reduceMul, Nat.reduceAdd, Nat.reduceSub, ↓EU_region, ↓EU_draw]; rfl, Ext.refl _⟩
      · omega
      · clear g3
        rintro ⟨_, _⟩ ⟨tm, h', rfl, rfl, g5, x'⟩
        have hL0 : L[0]? = some 0 := by rw [hm0]; rfl
        obtain ⟨bb, o, c', e, hb', hrd, hr⟩ := (op.sl.ext x').at hL0 rfl
        cases e
        have hr0 := hr 0 _ rfl
        simp only [Nat.zero_mul, Nat.add_zero] at hr0
        have hL1 : 1 ≤ L.length := by rw [hm0]; simp
        have e1 : decide (1 ≤ (L.length : Int)) = true := decide_eq_true (by omega)
        have e2 : decide ((L.length : Int) ≤ 16) = true := decide_eq_true (by omega)
        have e3 : decide (0 < (L.length : Int)) = true := decide_eq_true (by omega)
        simp (maxSteps := 1000000) (disch := first | decide | omega | (simp only [go_sem]; first | done | omega)) only [go_sem, Int.reduceToNat, Nat.reduceMul, Nat.reduceAdd, Nat.reduceSub, ↓EU_region, ↓EU_draw, g5, e1, e2, e3, hr0]
end Go.Proofs.Ytagjgigknnaphaa.EV
