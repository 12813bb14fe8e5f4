/- OrdqPlays, plainly. No condition. -/
import Derived.Test.YtchclddjifhcaaaRw2
namespace Go.Proofs.Ytchclddjifhcaaa.EV
open Go Go.Proofs
set_option linter.unusedVariables false
set_option linter.unusedSimpArgs false
set_option maxRecDepth 100000
set_option pp.deepTerms false
set_option pp.deepTerms.threshold 20
structure Act3 where
  op : Int
  id : Int
  key : Int
noncomputable def aE (x : Act3) : List Value := [.int .i64 x.op, .int .i64 x.id, .int .i64 x.key]
theorem aE_len (x : Act3) : (aE x).length = 3 := rfl
theorem aE_flatV (x : Act3) : (aE x).all flat1 = true := rfl
noncomputable def aWf (x : Act3) : Prop := (Lit.int .i64 x.op).wf = true ∧ (Lit.int .i64 x.id).wf = true ∧ (Lit.int .i64 x.key).wf = true
/-- a queue and its row, kept alike -/
structure PS (h h' : Heap) (bq mq bw : Nat) (M : Int) (lq vw : Value) (sq : Int) (L : List QI) (W : List RI) (i : Nat) : Prop where
  qr : QR h' bq lq mq M sq L
  rr : RR h' bw vw M W
  dj : ∀ j, QS bq lq mq j → ¬ RS bw vw j
  nq : ∀ j, QS bq lq mq j → h.next ≤ j
  nw : ∀ j, RS bw vw j → h.next ≤ j
  lk : LK W L
  hp : HP L
  le : L.length ≤ i
  lm : (L.length : Int) ≤ M
  s0 : 0 ≤ sq
  s1 : sq ≤ 100000 * (i : Int)
  xx : Ext h h'
section
variable {h h' h2 : Heap} {bq mq bw : Nat} {M : Int} {lq vw : Value} {sq : Int} {L : List QI} {W : List RI} {i : Nat}
theorem PS.ext (p : PS h h' bq mq bw M lq vw sq L W i) (x : Ext h' h2) : PS h h2 bq mq bw M lq vw sq L W i :=
  ⟨p.qr.ext x, p.rr.ext x, p.dj, p.nq, p.nw, p.lk, p.hp, p.le, p.lm, p.s0, p.s1, p.xx.trans x⟩
theorem PS.up (p : PS h h' bq mq bw M lq vw sq L W i) : PS h h' bq mq bw M lq vw sq L W (i + 1) :=
  ⟨p.qr, p.rr, p.dj, p.nq, p.nw, p.lk, p.hp, by have := p.le; omega, p.lm, p.s0, by have := p.s1; omega, p.xx⟩
/-- the queue turned, then the row -/
theorem PS.both (p : PS h h' bq mq bw M lq vw sq L W i) {h3 : Heap} {lq' vw' : Value} {sq' : Int} {L' : List QI} {W' : List RI} {c : Nat} (q' : QR h2 bq lq' mq M sq' L') (m1 : Mod (QS bq lq mq) h' h2) (w1 : ∀ j, blkOf lq' j → blkOf lq j ∨ h'.next ≤ j) (r' : RR h3 bw vw' M W') (m2 : Mod (fun j => j = bw) h2 h3) (w2 : ∀ j, blkOf vw' j → h2.next ≤ j ∨ blkOf vw j)
    (lk : LK W' L') (hp : HP L → HP L') (hl : L'.length ≤ i + 1) (hlm : (L'.length : Int) ≤ M) (st : stN sq c sq') (hc : c ≤ 3 * bl (L.length + 1)) (hi : i < 1000) (hbl : bl (L.length + 1) ≤ 100) : PS h h3 bq mq bw M lq' vw' sq' L' W' (i + 1) ∧ Mod (fun j => QS bq lq mq j ∨ RS bw vw j) h' h3 ∧ sq ≤ sq' ∧ sq' ≤ sq + 3 * bl (L.length + 1) := by
  have s0 := p.s0
  have s1 := p.s1
  have es : sq' = sq + (c : Int) := st s0 (by omega)
  have hh := p.xx.le
  have wq : ∀ j, QS bq lq' mq j → QS bq lq mq j ∨ h'.next ≤ j := fun j e => by
    rcases e with e | e | e
    · exact .inl (.inl e)
    · exact .inl (.inr (.inl e))
    · rcases w1 j e with q | q
      · exact .inl (.inr (.inr q))
      · exact .inr q
  have nbw : ¬ QS bq lq' mq bw := fun e => by
    rcases wq _ e with q | q
    · exact p.dj _ q (.inl rfl)
    · have := p.rr.bl; omega
  have hn : ∀ j, QS bq lq' mq j → ¬ RS bw vw' j := fun j e1 e2 => by
    rcases e2 with e | e
    · exact nbw (by rw [← e]; exact e1)
    · rcases w2 j e with q | q
      · have := q'.blk e1; omega
      · rcases wq j e1 with q1 | q1
        · exact p.dj j q1 (.inr q)
        · have := p.rr.blk (.inr q); omega
  have nq : ∀ j, QS bq lq' mq j → h.next ≤ j := fun j e => by
    rcases wq j e with q | q
    · exact p.nq j q
    · omega
  have hle1 := m1.le
  have nw : ∀ j, RS bw vw' j → h.next ≤ j := fun j e => by
    rcases e with e | e
    · exact p.nw j (.inl e)
    · rcases w2 j e with q | q
      · omega
      · exact p.nw j (.inr q)
  have m3 : Mod (fun j => QS bq lq mq j ∨ RS bw vw j) h' h3 := (m1.mono fun j _ e => .inl e).trans (m2.mono fun j _ e => .inr (.inl e))
  have xx : Ext h h3 := ⟨Nat.le_trans hh m3.le, fun j hj => (m3.old j (by omega) (fun e => by
    rcases e with e | e
    · have := p.nq j e; omega
    · have := p.nw j e; omega)).trans (p.xx.old j hj)⟩
  exact ⟨⟨q'.modO m2 (fun j e1 e2 => by subst e2; exact nbw e1), r', hn, nq, nw, lk, hp p.hp, hl, hlm, by omega, by omega, xx⟩, m3, by omega, by omega⟩
end
theorem bl_small {n : Nat} (h : n < 1000) : bl n ≤ 10 := bl_lt 10 n (by omega)
noncomputable def ltM (M : Int) : Int := if M < 1 then 1 else M
theorem clampM_eq (M : Int) : clampM M = if M > 4096 then 4096 else ltM M := by
  unfold clampM ltM
  by_cases h1 : M < 1
  · rw [if_pos h1, if_neg (by omega), if_pos h1]
  · rw [if_neg h1]
    by_cases h2 : M > 4096
    · rw [if_pos h2, if_pos h2]
    · rw [if_neg h2, if_neg h2, if_neg h1]
theorem set_perm {l : List QI} {n : Nat} {x y : QI} (hx : l[n]? = some x) : ∃ r, l.Perm (x :: r) ∧ (l.set n y).Perm (y :: r) := by
  obtain ⟨hn, rfl⟩ := List.getElem?_eq_some_iff.1 hx
  refine ⟨l.take n ++ l.drop (n + 1), ?_, ?_⟩
  · conv => lhs; rw [← List.take_append_drop n l, List.drop_eq_getElem_cons hn]
    exact List.perm_middle
  · rw [List.set_eq_take_append_cons_drop, if_pos hn]
    exact List.perm_middle
theorem qmin2 {h : Heap} {b : Nat} {lv : Value} {mb : Nat} {most st : Int} {l : List QI} (q : QR h b lv mb most st l) : ∃ v, Pu (EF Try.prog O0 12 [ptr b 0] h) h v ∧ ((l = [] ∧ v = .tuple ⟨[.agg ⟨[.int .i64 0, .int .i64 0]⟩, .bool false]⟩) ∨ ∃ x t, l = x :: t ∧ v = .tuple ⟨[.agg ⟨[.int .i64 x.key, .int .i64 x.id]⟩, .bool true]⟩) := by
  have := qmin_ev q
  cases l with
  | nil => exact ⟨_, this, .inl ⟨rfl, rfl⟩⟩
  | cons x t => exact ⟨_, this, .inr ⟨x, t, rfl, rfl⟩⟩
set_option maxHeartbeats 16000000 in
theorem law_OrdqPlays (h : Heap) (most : Int) (wm : (Lit.int .i64 most).wf = true) (s : Value) (l : List Act3) (hs : SL aE 3 h s l) (wl : ∀ z ∈ l, aWf z) :
    WPo (EF Try.prog O0 7 [.int .i64 most, s] h) fun q => q.1 = .bool true := by
  rw [EF_body (O := O0) (by kernel_rfl) Try.func7 rfl (rs := [.tmp 4]) rfl (bad := [23, 41, 47]) (by kernel_rfl) _ _ (m := 292) rfl]
  have dt : ∀ x : Int, decide (x = x) = true := fun x => decide_eq_true rfl
  have bs : ∀ x : Bool, (x != x) = false := fun x => by cases x <;> rfl
  obtain ⟨a, c, rfl⟩ := hs.val
  by_cases c0 : l.length > 300
  · have d0 : decide ((l.length : Int) > 300) = true := decide_eq_true (by omega)
    simp (maxSteps := 1000000) (disch := first | decide | omega | (simp only [go_sem]; first | done | omega)) only [go_sem, Int.reduceToNat, Nat.reduceMul, Nat.reduceAdd, Nat.reduceSub, ↓EU_region, ↓EU_draw, awake_ev, d0]
  have d0 : decide ((l.length : Int) > 300) = false := decide_eq_false (by omega)
  simp (maxSteps := 1000000) (disch := first | decide | omega | (simp only [go_sem]; first | done | omega)) only [go_sem, Int.reduceToNat, Nat.reduceMul, Nat.reduceAdd, Nat.reduceSub, ↓EU_region, ↓EU_draw, awake_ev, d0]
  repeat refine WPo_ob ?_
  refine (new_ev most h).mono ?_
  rintro ⟨v1, h1⟩ ⟨bq, mq, rfl, qq, x1, nq, nmq⟩
  simp only at qq x1
  have x2 : Ext h1 (h1.push (.cells [.int .i64 most, .slice none 0 1] 0)) := (Ext.refl h1).push _
  have g2 : (h1.push (.cells [.int .i64 most, .slice none 0 1] 0)).get h1.next = .cells [.int .i64 most, .slice none 0 1] 0 := get_push_new _ _
  have n2 : (h1.push (.cells [.int .i64 most, .slice none 0 1] 0)).next = h1.next + 1 := next_push _ _
  simp (maxSteps := 1000000) (disch := first | decide | omega | (simp only [go_sem]; first | done | omega)) only [go_sem, Int.reduceToNat, Nat.reduceMul, Nat.reduceAdd, Nat.reduceSub, ↓EU_region, ↓EU_draw]
  generalize h1.push (.cells [.int .i64 most, .slice none 0 1] 0) = h2 at *
  repeat refine WPo_ob ?_
  refine WPo.mono (Q := fun q => ∃ tm h3, q = (.normal, ⟨tm, h3, []⟩) ∧ Fr.get tm 0 = .int .i64 most ∧ Fr.get tm 1 = .slice a l.length c ∧ Fr.get tm 5 = ptr bq 0 ∧ Fr.get tm 6 = ptr h1.next 0 ∧ h3.get h1.next = .cells [.int .i64 (ltM most), .slice none 0 1] 0 ∧ h1.next < h3.next ∧ Ext h1 h3) ?_ ?_
  · by_cases q : most < 1
    · have d : decide (most < 1) = true := decide_eq_true q
      simp (maxSteps := 1000000) (disch := first | decide | omega | (simp only [go_sem]; first | done | omega)) only [go_sem, Int.reduceToNat, Nat.reduceMul, Nat.reduceAdd, Nat.reduceSub, ↓EU_region, ↓EU_draw, d, g2]
      refine ⟨_, _, rfl, by simp (maxSteps := 1000000) (disch := first | decide | omega | (simp only [go_sem]; first | done | omega)) only [go_sem, Int.reduceToNat, Nat.reduceMul, Nat.reduceAdd, Nat.reduceSub, ↓EU_region, ↓EU_draw], by simp (maxSteps := 1000000) (disch := first | decide | omega | (simp only [go_sem]; first | done | omega)) only [go_sem, Int.reduceToNat, Nat.reduceMul, Nat.reduceAdd, Nat.reduceSub, ↓EU_region, ↓EU_draw], by simp (maxSteps := 1000000) (disch := first | decide | omega | (simp only [go_sem]; first | done | omega)) only [go_sem, Int.reduceToNat, Nat.reduceMul, Nat.reduceAdd, Nat.reduceSub, ↓EU_region, ↓EU_draw], by simp (maxSteps := 1000000) (disch := first | decide | omega | (simp only [go_sem]; first | done | omega)) only [go_sem, Int.reduceToNat, Nat.reduceMul, Nat.reduceAdd, Nat.reduceSub, ↓EU_region, ↓EU_draw], ?_, ?_, x2.set _ _ (Nat.le_refl _)⟩
      · unfold ltM; rw [if_pos q]; exact get_set_same _ _ _
      · rw [next_set]; omega
    · have d : decide (most < 1) = false := decide_eq_false q
      simp (maxSteps := 1000000) (disch := first | decide | omega | (simp only [go_sem]; first | done | omega)) only [go_sem, Int.reduceToNat, Nat.reduceMul, Nat.reduceAdd, Nat.reduceSub, ↓EU_region, ↓EU_draw, d]
      refine ⟨_, _, rfl, by simp (maxSteps := 1000000) (disch := first | decide | omega | (simp only [go_sem]; first | done | omega)) only [go_sem, Int.reduceToNat, Nat.reduceMul, Nat.reduceAdd, Nat.reduceSub, ↓EU_region, ↓EU_draw], by simp (maxSteps := 1000000) (disch := first | decide | omega | (simp only [go_sem]; first | done | omega)) only [go_sem, Int.reduceToNat, Nat.reduceMul, Nat.reduceAdd, Nat.reduceSub, ↓EU_region, ↓EU_draw], by simp (maxSteps := 1000000) (disch := first | decide | omega | (simp only [go_sem]; first | done | omega)) only [go_sem, Int.reduceToNat, Nat.reduceMul, Nat.reduceAdd, Nat.reduceSub, ↓EU_region, ↓EU_draw], by simp (maxSteps := 1000000) (disch := first | decide | omega | (simp only [go_sem]; first | done | omega)) only [go_sem, Int.reduceToNat, Nat.reduceMul, Nat.reduceAdd, Nat.reduceSub, ↓EU_region, ↓EU_draw], ?_, ?_, x2⟩
      · unfold ltM; rw [if_neg q]; exact g2
      · omega
  · rintro _ ⟨tm, h3, rfl, g0, g1, g5, g6, k3, n3, x3⟩
    have ec := clampM_eq most
    simp (maxSteps := 1000000) (disch := first | decide | omega | (simp only [go_sem]; first | done | omega)) only [go_sem, Int.reduceToNat, Nat.reduceMul, Nat.reduceAdd, Nat.reduceSub, ↓EU_region, ↓EU_draw, g0]
    repeat refine WPo_ob ?_
    refine WPo.mono (Q := fun q => ∃ tm h4, q = (.normal, ⟨tm, h4, []⟩) ∧ Fr.get tm 1 = .slice a l.length c ∧ Fr.get tm 5 = ptr bq 0 ∧ Fr.get tm 6 = ptr h1.next 0 ∧ h4.get h1.next = .cells [.int .i64 (clampM most), .slice none 0 1] 0 ∧ h1.next < h4.next ∧ Ext h1 h4) ?_ ?_
    · by_cases q : most > 4096
      · have d : decide (most > 4096) = true := decide_eq_true q
        simp (maxSteps := 1000000) (disch := first | decide | omega | (simp only [go_sem]; first | done | omega)) only [go_sem, Int.reduceToNat, Nat.reduceMul, Nat.reduceAdd, Nat.reduceSub, ↓EU_region, ↓EU_draw, d, g0, g1, g5, g6, k3]
        refine ⟨_, _, rfl, by simp (maxSteps := 1000000) (disch := first | decide | omega | (simp only [go_sem]; first | done | omega)) only [go_sem, Int.reduceToNat, Nat.reduceMul, Nat.reduceAdd, Nat.reduceSub, ↓EU_region, ↓EU_draw, g1], by simp (maxSteps := 1000000) (disch := first | decide | omega | (simp only [go_sem]; first | done | omega)) only [go_sem, Int.reduceToNat, Nat.reduceMul, Nat.reduceAdd, Nat.reduceSub, ↓EU_region, ↓EU_draw, g5], by simp (maxSteps := 1000000) (disch := first | decide | omega | (simp only [go_sem]; first | done | omega)) only [go_sem, Int.reduceToNat, Nat.reduceMul, Nat.reduceAdd, Nat.reduceSub, ↓EU_region, ↓EU_draw, g6], ?_, ?_, x3.set _ _ (Nat.le_refl _)⟩
        · rw [ec, if_pos q]; exact get_set_same _ _ _
        · rw [next_set]; omega
      · have d : decide (most > 4096) = false := decide_eq_false q
        simp (maxSteps := 1000000) (disch := first | decide | omega | (simp only [go_sem]; first | done | omega)) only [go_sem, Int.reduceToNat, Nat.reduceMul, Nat.reduceAdd, Nat.reduceSub, ↓EU_region, ↓EU_draw, d, g0, g1, g5, g6]
        refine ⟨_, _, rfl, by simp (maxSteps := 1000000) (disch := first | decide | omega | (simp only [go_sem]; first | done | omega)) only [go_sem, Int.reduceToNat, Nat.reduceMul, Nat.reduceAdd, Nat.reduceSub, ↓EU_region, ↓EU_draw, g1], by simp (maxSteps := 1000000) (disch := first | decide | omega | (simp only [go_sem]; first | done | omega)) only [go_sem, Int.reduceToNat, Nat.reduceMul, Nat.reduceAdd, Nat.reduceSub, ↓EU_region, ↓EU_draw, g5], by simp (maxSteps := 1000000) (disch := first | decide | omega | (simp only [go_sem]; first | done | omega)) only [go_sem, Int.reduceToNat, Nat.reduceMul, Nat.reduceAdd, Nat.reduceSub, ↓EU_region, ↓EU_draw, g6], ?_, ?_, x3⟩
        · rw [ec, if_neg q]; exact k3
        · omega
    clear g0 g1 g5 g6
    rintro _ ⟨tm, h4, rfl, g1, g5, g6, k4, n4, x4⟩
    have hM1 : 1 ≤ clampM most := by unfold clampM; split <;> (try split) <;> omega
    generalize clampM most = M at *
    have hb1 := qq.bl
    have hm1 := qq.ml
    have p0 : PS h h4 bq mq h1.next M (.slice none 0 1) (.slice none 0 1) 0 [] [] 0 :=
      ⟨qq.ext x4, ⟨n4, k4, OW.nil, fun e => e⟩, fun j e1 e2 => by
        rcases e2 with e | e
        · rcases e1 with f | f | f
          · omega
          · omega
          · exact f.elim
        · exact e.elim, fun j e => by
        rcases e with f | f | f
        · omega
        · omega
        · exact f.elim, fun j e => by
        rcases e with f | f
        · have := x1.le; omega
        · exact f.elim, LK.nil, HP.nil, Nat.le_refl _, by simp only [List.length_nil]; omega, Int.le_refl _, by omega, x1.trans x4⟩
    simp (maxSteps := 1000000) (disch := first | decide | omega | (simp only [go_sem]; first | done | omega)) only [go_sem, Int.reduceToNat, Nat.reduceMul, Nat.reduceAdd, Nat.reduceSub, ↓EU_region, ↓EU_draw, g1, g5, g6]
    repeat refine WPo_ob ?_
    refine (LP_rule (fun m st => ∃ (i : Nat) (tm : Fr) (h' : Heap) (lq vw : Value) (sq : Int) (L : List QI) (W : List RI), st = ⟨tm, h', []⟩ ∧ m = l.length - i ∧ i ≤ l.length ∧ Fr.get tm 1 = .slice a l.length c ∧ Fr.get tm 5 = ptr bq 0 ∧ Fr.get tm 6 = ptr h1.next 0 ∧ Fr.get tm 7 = .int .i64 (i : Int) ∧ PS h h' bq mq h1.next M lq vw sq L W i)
      (fun q => ∃ tm h', q.2 = ⟨tm, h', []⟩ ∧ q.1 = .exit 0) ?_ l.length _ _ ?_ ?_).mono ?_
    rotate_left
    · exact ⟨0, _, h4, _, _, _, _, _, rfl, rfl, by omega, by simp (maxSteps := 1000000) (disch := first | decide | omega | (simp only [go_sem]; first | done | omega)) only [go_sem, Int.reduceToNat, Nat.reduceMul, Nat.reduceAdd, Nat.reduceSub, ↓EU_region, ↓EU_draw, g1], by simp (maxSteps := 1000000) (disch := first | decide | omega | (simp only [go_sem]; first | done | omega)) only [go_sem, Int.reduceToNat, Nat.reduceMul, Nat.reduceAdd, Nat.reduceSub, ↓EU_region, ↓EU_draw, g5], by simp (maxSteps := 1000000) (disch := first | decide | omega | (simp only [go_sem]; first | done | omega)) only [go_sem, Int.reduceToNat, Nat.reduceMul, Nat.reduceAdd, Nat.reduceSub, ↓EU_region, ↓EU_draw, g6], by simp (maxSteps := 1000000) (disch := first | decide | omega | (simp only [go_sem]; first | done | omega)) only [go_sem, Int.reduceToNat, Nat.reduceMul, Nat.reduceAdd, Nat.reduceSub, ↓EU_region, ↓EU_draw]; rfl, p0⟩
    · omega
    · rintro ⟨_, _⟩ ⟨tm, h', rfl, rfl⟩
      simp (maxSteps := 1000000) (disch := first | decide | omega | (simp only [go_sem]; first | done | omega)) only [go_sem, Int.reduceToNat, Nat.reduceMul, Nat.reduceAdd, Nat.reduceSub, ↓EU_region, ↓EU_draw]
    clear p0 g1 g5 g6 k4
    generalize h1.next = bw at *
    rintro m _ ⟨i, tm, h', lq, vw, sq, L, W, rfl, hm, hi, g1, g5, g6, g7, p⟩
    by_cases q : i < l.length
    rotate_left
    · have d : decide ((i : Int) < (l.length : Int)) = false := decide_eq_false (by omega)
      simp (maxSteps := 1000000) (disch := first | decide | omega | (simp only [go_sem]; first | done | omega)) only [go_sem, Int.reduceToNat, Nat.reduceMul, Nat.reduceAdd, Nat.reduceSub, ↓EU_region, ↓EU_draw, g1, g7, d]
      exact ⟨_, h', rfl, trivial⟩
    have hmm : l.length - (i + 1) < m := by omega
    have hi1 : i + 1 ≤ l.length := q
    have d : decide ((i : Int) < (l.length : Int)) = true := decide_eq_true (by omega)
    obtain ⟨⟨op, id, key⟩, hx⟩ : ∃ x, l[i]? = some x := ⟨_, List.getElem?_eq_getElem q⟩
    have hwi : wrapF .i64 ((i : Int) + 1) = ((i + 1 : Nat) : Int) := by rw [wrap64 (by omega)]; rfl
    obtain ⟨B, o, c', e, _, r1, _⟩ := (hs.ext p.xx).at hx rfl
    cases e
    have r1 : rdc (h'.get B) (o + i * 3) 3 = some [.int .i64 op, .int .i64 id, .int .i64 key] := r1
    have pA := p.ext ((Ext.refl h').push (.cells [.int .i64 op, .int .i64 id, .int .i64 key] 0))
    have kA : (h'.push (.cells [.int .i64 op, .int .i64 id, .int .i64 key] 0)).get h'.next = .cells [.int .i64 op, .int .i64 id, .int .i64 key] 0 := get_push_new _ _
    have nA : (h'.push (.cells [.int .i64 op, .int .i64 id, .int .i64 key] 0)).next = h'.next + 1 := next_push _ _
    have st := qsteps_ev pA.qr
    have hL := p.le
    have hWl := p.lk.len
    have hb10 := bl_small (n := W.length) (by omega)
    have nq' : ∀ j, QS bq lq mq j → j < h'.next := fun j e => p.qr.blk e
    have nw' : ∀ j, RS bw vw j → j < h'.next := fun j e => p.rr.blk e
    have cb := pA.rr.cb
    have bl0 := pA.rr.bl
    obtain ⟨aw, cw, hvw⟩ := pA.rr.ow.val
    rw [hvw] at cb
    simp (maxSteps := 1000000) (disch := first | decide | omega | (simp only [go_sem]; first | done | omega)) only [go_sem, Int.reduceToNat, Nat.reduceMul, Nat.reduceAdd, Nat.reduceSub, ↓EU_region, ↓EU_draw, g1, g5, g6, g7, d, r1]
    generalize h'.push (.cells [.int .i64 op, .int .i64 id, .int .i64 key] 0) = hA at *
    simp (maxSteps := 1000000) (disch := first | decide | omega | (simp only [go_sem]; first | done | omega)) only [go_sem, Int.reduceToNat, Nat.reduceMul, Nat.reduceAdd, Nat.reduceSub, ↓EU_region, ↓EU_draw, g1, g5, g6, g7, st]
    repeat refine WPo_ob ?_
    refine (LP_rule (fun m st => ∃ (j : Nat) (tm : Fr), st = ⟨tm, hA, []⟩ ∧ m = bl W.length - j ∧ j ≤ bl W.length ∧ Fr.get tm 1 = .slice (some ⟨B, o, none⟩) l.length c ∧ Fr.get tm 5 = ptr bq 0 ∧ Fr.get tm 6 = ptr bw 0 ∧ Fr.get tm 7 = .int .i64 (i : Int) ∧ Fr.get tm 8 = ptr h'.next 0 ∧ Fr.get tm 9 = .int .i64 sq ∧ Fr.get tm 10 = .int .i64 (j : Int))
      (fun q => ∃ tm, q.2 = ⟨tm, hA, []⟩ ∧ q.1 = .exit 2 ∧ Fr.get tm 1 = .slice (some ⟨B, o, none⟩) l.length c ∧ Fr.get tm 5 = ptr bq 0 ∧ Fr.get tm 6 = ptr bw 0 ∧ Fr.get tm 7 = .int .i64 (i : Int) ∧ Fr.get tm 8 = ptr h'.next 0 ∧ Fr.get tm 9 = .int .i64 sq ∧ Fr.get tm 10 = .int .i64 (bl W.length : Int)) ?_ (bl W.length) _ _ ?_ ?_).mono ?_
    · clear g1 g5 g6 g7
      rintro m _ ⟨j, tm, rfl, hmj, hj, g1, g5, g6, g7, g8, g9, g10⟩
      by_cases hq : 0 < W.length >>> j
      · have d : decide (0 < ((W.length >>> j : Nat) : Int)) = true := decide_eq_true (by omega)
        have hj2 : j < bl W.length := bl_ge j W.length (by
          rw [Nat.shiftRight_eq_div_pow] at hq
          exact (Nat.div_pos_iff.1 hq).2)
        have hwj : wrapF .i64 ((j : Int) + 1) = ((j + 1 : Nat) : Int) := by rw [wrap64 (by omega)]; rfl
        simp (maxSteps := 1000000) (disch := first | decide | omega | (simp only [go_sem]; first | done | omega)) only [go_sem, Int.reduceToNat, Nat.reduceMul, Nat.reduceAdd, Nat.reduceSub, ↓EU_region, ↓EU_draw, g6, g10, cb, d, hwj]
        exact ⟨_, by omega, j + 1, _, rfl, rfl, by omega, by simp (maxSteps := 1000000) (disch := first | decide | omega | (simp only [go_sem]; first | done | omega)) only [go_sem, Int.reduceToNat, Nat.reduceMul, Nat.reduceAdd, Nat.reduceSub, ↓EU_region, ↓EU_draw, g1], by simp (maxSteps := 1000000) (disch := first | decide | omega | (simp only [go_sem]; first | done | omega)) only [go_sem, Int.reduceToNat, Nat.reduceMul, Nat.reduceAdd, Nat.reduceSub, ↓EU_region, ↓EU_draw, g5], by simp (maxSteps := 1000000) (disch := first | decide | omega | (simp only [go_sem]; first | done | omega)) only [go_sem, Int.reduceToNat, Nat.reduceMul, Nat.reduceAdd, Nat.reduceSub, ↓EU_region, ↓EU_draw, g6], by simp (maxSteps := 1000000) (disch := first | decide | omega | (simp only [go_sem]; first | done | omega)) only [go_sem, Int.reduceToNat, Nat.reduceMul, Nat.reduceAdd, Nat.reduceSub, ↓EU_region, ↓EU_draw, g7], by simp (maxSteps := 1000000) (disch := first | decide | omega | (simp only [go_sem]; first | done | omega)) only [go_sem, Int.reduceToNat, Nat.reduceMul, Nat.reduceAdd, Nat.reduceSub, ↓EU_region, ↓EU_draw, g8], by simp (maxSteps := 1000000) (disch := first | decide | omega | (simp only [go_sem]; first | done | omega)) only [go_sem, Int.reduceToNat, Nat.reduceMul, Nat.reduceAdd, Nat.reduceSub, ↓EU_region, ↓EU_draw, g9], by simp (maxSteps := 1000000) (disch := first | decide | omega | (simp only [go_sem]; first | done | omega)) only [go_sem, Int.reduceToNat, Nat.reduceMul, Nat.reduceAdd, Nat.reduceSub, ↓EU_region, ↓EU_draw]⟩
      · have d : decide (0 < ((W.length >>> j : Nat) : Int)) = false := decide_eq_false (by omega)
        have hj2 : bl W.length ≤ j := bl_lt j W.length (by
          rw [Nat.shiftRight_eq_div_pow] at hq
          rcases Nat.lt_or_ge W.length (2 ^ j) with k | k
          · exact k
          · exact absurd (Nat.div_pos k (Nat.two_pow_pos j)) hq)
        obtain rfl : j = bl W.length := by omega
        simp (maxSteps := 1000000) (disch := first | decide | omega | (simp only [go_sem]; first | done | omega)) only [go_sem, Int.reduceToNat, Nat.reduceMul, Nat.reduceAdd, Nat.reduceSub, ↓EU_region, ↓EU_draw, g6, g10, cb, d]
        exact ⟨_, rfl, trivial, by simp (maxSteps := 1000000) (disch := first | decide | omega | (simp only [go_sem]; first | done | omega)) only [go_sem, Int.reduceToNat, Nat.reduceMul, Nat.reduceAdd, Nat.reduceSub, ↓EU_region, ↓EU_draw, g1], by simp (maxSteps := 1000000) (disch := first | decide | omega | (simp only [go_sem]; first | done | omega)) only [go_sem, Int.reduceToNat, Nat.reduceMul, Nat.reduceAdd, Nat.reduceSub, ↓EU_region, ↓EU_draw, g5], by simp (maxSteps := 1000000) (disch := first | decide | omega | (simp only [go_sem]; first | done | omega)) only [go_sem, Int.reduceToNat, Nat.reduceMul, Nat.reduceAdd, Nat.reduceSub, ↓EU_region, ↓EU_draw, g6], by simp (maxSteps := 1000000) (disch := first | decide | omega | (simp only [go_sem]; first | done | omega)) only [go_sem, Int.reduceToNat, Nat.reduceMul, Nat.reduceAdd, Nat.reduceSub, ↓EU_region, ↓EU_draw, g7], by simp (maxSteps := 1000000) (disch := first | decide | omega | (simp only [go_sem]; first | done | omega)) only [go_sem, Int.reduceToNat, Nat.reduceMul, Nat.reduceAdd, Nat.reduceSub, ↓EU_region, ↓EU_draw, g8], by simp (maxSteps := 1000000) (disch := first | decide | omega | (simp only [go_sem]; first | done | omega)) only [go_sem, Int.reduceToNat, Nat.reduceMul, Nat.reduceAdd, Nat.reduceSub, ↓EU_region, ↓EU_draw, g9], by simp (maxSteps := 1000000) (disch := first | decide | omega | (simp only [go_sem]; first | done | omega)) only [go_sem, Int.reduceToNat, Nat.reduceMul, Nat.reduceAdd, Nat.reduceSub, ↓EU_region, ↓EU_draw, g10]⟩
    · exact ⟨0, _, rfl, rfl, by omega, by simp (maxSteps := 1000000) (disch := first | decide | omega | (simp only [go_sem]; first | done | omega)) only [go_sem, Int.reduceToNat, Nat.reduceMul, Nat.reduceAdd, Nat.reduceSub, ↓EU_region, ↓EU_draw, g1], by simp (maxSteps := 1000000) (disch := first | decide | omega | (simp only [go_sem]; first | done | omega)) only [go_sem, Int.reduceToNat, Nat.reduceMul, Nat.reduceAdd, Nat.reduceSub, ↓EU_region, ↓EU_draw, g5], by simp (maxSteps := 1000000) (disch := first | decide | omega | (simp only [go_sem]; first | done | omega)) only [go_sem, Int.reduceToNat, Nat.reduceMul, Nat.reduceAdd, Nat.reduceSub, ↓EU_region, ↓EU_draw, g6], by simp (maxSteps := 1000000) (disch := first | decide | omega | (simp only [go_sem]; first | done | omega)) only [go_sem, Int.reduceToNat, Nat.reduceMul, Nat.reduceAdd, Nat.reduceSub, ↓EU_region, ↓EU_draw, g7], by simp (maxSteps := 1000000) (disch := first | decide | omega | (simp only [go_sem]; first | done | omega)) only [go_sem, Int.reduceToNat, Nat.reduceMul, Nat.reduceAdd, Nat.reduceSub, ↓EU_region, ↓EU_draw], by simp (maxSteps := 1000000) (disch := first | decide | omega | (simp only [go_sem]; first | done | omega)) only [go_sem, Int.reduceToNat, Nat.reduceMul, Nat.reduceAdd, Nat.reduceSub, ↓EU_region, ↓EU_draw], by simp (maxSteps := 1000000) (disch := first | decide | omega | (simp only [go_sem]; first | done | omega)) only [go_sem, Int.reduceToNat, Nat.reduceMul, Nat.reduceAdd, Nat.reduceSub, ↓EU_region, ↓EU_draw]; rfl⟩
    · omega
    clear g1 g5 g6 g7
    rintro ⟨_, _⟩ ⟨tm, rfl, rfl, g1, g5, g6, g7, g8, g9, g10⟩
    simp (maxSteps := 1000000) (disch := first | decide | omega | (simp only [go_sem]; first | done | omega)) only [go_sem, Int.reduceToNat, Nat.reduceMul, Nat.reduceAdd, Nat.reduceSub, ↓EU_region, ↓EU_draw, g8, kA]
    repeat refine WPo_ob ?_
    have hbu := bl_up L.length
    have hbS : bl (L.length + 1) ≤ 100 := by rw [hWl] at hb10; omega
    refine WPo.mono (Q := fun q => ∃ tm h2 lq2 vw2 sq2 L2 W2, q = (.normal, ⟨tm, h2, []⟩) ∧ Fr.get tm 1 = .slice (some ⟨B, o, none⟩) l.length c ∧ Fr.get tm 5 = ptr bq 0 ∧ Fr.get tm 6 = ptr bw 0 ∧ Fr.get tm 7 = .int .i64 (i : Int) ∧ Fr.get tm 8 = ptr h'.next 0 ∧ Fr.get tm 9 = .int .i64 sq ∧ Fr.get tm 10 = .int .i64 (bl W.length : Int) ∧ PS h h2 bq mq bw M lq2 vw2 sq2 L2 W2 (i + 1) ∧ h2.get h'.next = .cells [.int .i64 op, .int .i64 id, .int .i64 key] 0 ∧ h'.next < h2.next ∧ sq ≤ sq2 ∧ sq2 ≤ sq + 3 * bl (L.length + 1)) ?_ ?_
    · by_cases o0 : op = 0
      · have d0 : decide (op = 0) = true := decide_eq_true o0
        simp (maxSteps := 1000000) (disch := first | decide | omega | (simp only [go_sem]; first | done | omega)) only [go_sem, Int.reduceToNat, Nat.reduceMul, Nat.reduceAdd, Nat.reduceSub, ↓EU_region, ↓EU_draw, d0]
        rw [EU_bad _ _ rfl, EC_tab (tab := [(false, none), (false, none), (false, none), (false, none), (false, none), (true, none), (false, none), (false, none), (false, (some (0, 1))), (false, none), (false, (some (0, 1))), (false, none), (true, none), (false, none)]) (by kernel_rfl)]
        simp (maxSteps := 1000000) (disch := first | decide | omega | (simp only [go_sem]; first | done | omega)) only [go_sem, Int.reduceToNat, Nat.reduceMul, Nat.reduceAdd, Nat.reduceSub, ↓EU_region, ↓EU_draw, g5, g8, kA]
        repeat refine WPo_ob ?_
        refine (qput_ev pA.qr key id (by omega)).mono ?_
        rintro ⟨v3, h3⟩ (⟨rfl, e, n, x, hx, hxid⟩ | ⟨hno, ⟨rfl, e, hfull⟩ | ⟨rfl, hnf, lq', L', sq', cN, q', m', w', pp, hp', stn, hc⟩⟩)
        · simp only at e
          have e := e.symm
          subst e
          simp (maxSteps := 1000000) (disch := first | decide | omega | (simp only [go_sem]; first | done | omega)) only [go_sem, Int.reduceToNat, Nat.reduceMul, Nat.reduceAdd, Nat.reduceSub, ↓EU_region, ↓EU_draw, g6, g8, kA]
          repeat refine WPo_ob ?_
          refine (rput_ev pA.rr ⟨key, 0, id⟩ (by omega)).mono ?_
          rintro ⟨v4, h4⟩ (⟨rfl, x4, _⟩ | ⟨hno, _⟩)
          · simp only at x4
            have k4 := (x4.old _ (by omega : h'.next < hA.next)).trans kA
            have n4 := x4.le
            simp (maxSteps := 1000000) (disch := first | decide | omega | (simp only [go_sem]; first | done | omega)) only [go_sem, Int.reduceToNat, Nat.reduceMul, Nat.reduceAdd, Nat.reduceSub, ↓EU_region, ↓EU_draw, g5, g6, g8, kA, k4, dt]
            exact ⟨_, h4, _, _, _, _, _, rfl, by simp (maxSteps := 1000000) (disch := first | decide | omega | (simp only [go_sem]; first | done | omega)) only [go_sem, Int.reduceToNat, Nat.reduceMul, Nat.reduceAdd, Nat.reduceSub, ↓EU_region, ↓EU_draw, g1], by simp (maxSteps := 1000000) (disch := first | decide | omega | (simp only [go_sem]; first | done | omega)) only [go_sem, Int.reduceToNat, Nat.reduceMul, Nat.reduceAdd, Nat.reduceSub, ↓EU_region, ↓EU_draw, g5], by simp (maxSteps := 1000000) (disch := first | decide | omega | (simp only [go_sem]; first | done | omega)) only [go_sem, Int.reduceToNat, Nat.reduceMul, Nat.reduceAdd, Nat.reduceSub, ↓EU_region, ↓EU_draw, g6], by simp (maxSteps := 1000000) (disch := first | decide | omega | (simp only [go_sem]; first | done | omega)) only [go_sem, Int.reduceToNat, Nat.reduceMul, Nat.reduceAdd, Nat.reduceSub, ↓EU_region, ↓EU_draw, g7], by simp (maxSteps := 1000000) (disch := first | decide | omega | (simp only [go_sem]; first | done | omega)) only [go_sem, Int.reduceToNat, Nat.reduceMul, Nat.reduceAdd, Nat.reduceSub, ↓EU_region, ↓EU_draw, g8], by simp (maxSteps := 1000000) (disch := first | decide | omega | (simp only [go_sem]; first | done | omega)) only [go_sem, Int.reduceToNat, Nat.reduceMul, Nat.reduceAdd, Nat.reduceSub, ↓EU_region, ↓EU_draw, g9], by simp (maxSteps := 1000000) (disch := first | decide | omega | (simp only [go_sem]; first | done | omega)) only [go_sem, Int.reduceToNat, Nat.reduceMul, Nat.reduceAdd, Nat.reduceSub, ↓EU_region, ↓EU_draw, g10], (pA.ext x4).up, k4, by omega, Int.le_refl _, by omega⟩
          · exact absurd hxid (p.lk.mem' hno n x hx)
        · simp only at e
          have e := e.symm
          subst e
          simp (maxSteps := 1000000) (disch := first | decide | omega | (simp only [go_sem]; first | done | omega)) only [go_sem, Int.reduceToNat, Nat.reduceMul, Nat.reduceAdd, Nat.reduceSub, ↓EU_region, ↓EU_draw, g6, g8, kA]
          repeat refine WPo_ob ?_
          refine (rput_ev pA.rr ⟨key, 0, id⟩ (by omega)).mono ?_
          rintro ⟨v4, h4⟩ (⟨_, _, n, y, hy, hyid⟩ | ⟨_, ⟨rfl, x4, _⟩ | ⟨_, hlt, _⟩⟩)
          · exact absurd hyid (p.lk.mem hno n y hy)
          · simp only at x4
            have k4 := (x4.old _ (by omega : h'.next < hA.next)).trans kA
            have n4 := x4.le
            simp (maxSteps := 1000000) (disch := first | decide | omega | (simp only [go_sem]; first | done | omega)) only [go_sem, Int.reduceToNat, Nat.reduceMul, Nat.reduceAdd, Nat.reduceSub, ↓EU_region, ↓EU_draw, g5, g6, g8, kA, k4, dt]
            exact ⟨_, h4, _, _, _, _, _, rfl, by simp (maxSteps := 1000000) (disch := first | decide | omega | (simp only [go_sem]; first | done | omega)) only [go_sem, Int.reduceToNat, Nat.reduceMul, Nat.reduceAdd, Nat.reduceSub, ↓EU_region, ↓EU_draw, g1], by simp (maxSteps := 1000000) (disch := first | decide | omega | (simp only [go_sem]; first | done | omega)) only [go_sem, Int.reduceToNat, Nat.reduceMul, Nat.reduceAdd, Nat.reduceSub, ↓EU_region, ↓EU_draw, g5], by simp (maxSteps := 1000000) (disch := first | decide | omega | (simp only [go_sem]; first | done | omega)) only [go_sem, Int.reduceToNat, Nat.reduceMul, Nat.reduceAdd, Nat.reduceSub, ↓EU_region, ↓EU_draw, g6], by simp (maxSteps := 1000000) (disch := first | decide | omega | (simp only [go_sem]; first | done | omega)) only [go_sem, Int.reduceToNat, Nat.reduceMul, Nat.reduceAdd, Nat.reduceSub, ↓EU_region, ↓EU_draw, g7], by simp (maxSteps := 1000000) (disch := first | decide | omega | (simp only [go_sem]; first | done | omega)) only [go_sem, Int.reduceToNat, Nat.reduceMul, Nat.reduceAdd, Nat.reduceSub, ↓EU_region, ↓EU_draw, g8], by simp (maxSteps := 1000000) (disch := first | decide | omega | (simp only [go_sem]; first | done | omega)) only [go_sem, Int.reduceToNat, Nat.reduceMul, Nat.reduceAdd, Nat.reduceSub, ↓EU_region, ↓EU_draw, g9], by simp (maxSteps := 1000000) (disch := first | decide | omega | (simp only [go_sem]; first | done | omega)) only [go_sem, Int.reduceToNat, Nat.reduceMul, Nat.reduceAdd, Nat.reduceSub, ↓EU_region, ↓EU_draw, g10], (pA.ext x4).up, k4, by omega, Int.le_refl _, by omega⟩
          · rw [hWl] at hlt; omega
        · simp only at q' m'
          have k3 := (m'.old _ (by omega : h'.next < hA.next) (fun e => Nat.lt_irrefl _ (nq' _ e))).trans kA
          have rr3 := pA.rr.modO m' (fun j e1 e2 => p.dj j e2 e1)
          have n3 := m'.le
          simp (maxSteps := 1000000) (disch := first | decide | omega | (simp only [go_sem]; first | done | omega)) only [go_sem, Int.reduceToNat, Nat.reduceMul, Nat.reduceAdd, Nat.reduceSub, ↓EU_region, ↓EU_draw, g6, g8, k3]
          repeat refine WPo_ob ?_
          refine (rput_ev rr3 ⟨key, 0, id⟩ (by omega)).mono ?_
          rintro ⟨v4, h4⟩ (⟨_, _, n, y, hy, hyid⟩ | ⟨_, ⟨_, _, hge⟩ | ⟨rfl, hlt, vw', k, r4, m4, f4, hk, hk1, hk2⟩⟩)
          · exact absurd hyid (p.lk.mem hno n y hy)
          · rw [hWl] at hge; have := p.lm; omega
          · simp only at r4 m4 f4
            have k4 := (m4.old h'.next (by omega) (fun e => by have := nw' bw (.inl rfl); omega)).trans k3
            have n4 := m4.le
            have hll := pp.length_eq
            rw [List.length_cons] at hll
            obtain ⟨p4, _, b1, b2⟩ := pA.both q' m' w' r4 m4 (fun j e => .inl (f4 j e)) (p.lk.ins hk hk1 hk2 pp) hp' (by omega) (by have := p.lm; omega) stn hc (by omega) hbS
            simp (maxSteps := 1000000) (disch := first | decide | omega | (simp only [go_sem]; first | done | omega)) only [go_sem, Int.reduceToNat, Nat.reduceMul, Nat.reduceAdd, Nat.reduceSub, ↓EU_region, ↓EU_draw, g5, g6, g8, kA, k3, k4, dt]
            exact ⟨_, h4, _, _, _, _, _, rfl, by simp (maxSteps := 1000000) (disch := first | decide | omega | (simp only [go_sem]; first | done | omega)) only [go_sem, Int.reduceToNat, Nat.reduceMul, Nat.reduceAdd, Nat.reduceSub, ↓EU_region, ↓EU_draw, g1], by simp (maxSteps := 1000000) (disch := first | decide | omega | (simp only [go_sem]; first | done | omega)) only [go_sem, Int.reduceToNat, Nat.reduceMul, Nat.reduceAdd, Nat.reduceSub, ↓EU_region, ↓EU_draw, g5], by simp (maxSteps := 1000000) (disch := first | decide | omega | (simp only [go_sem]; first | done | omega)) only [go_sem, Int.reduceToNat, Nat.reduceMul, Nat.reduceAdd, Nat.reduceSub, ↓EU_region, ↓EU_draw, g6], by simp (maxSteps := 1000000) (disch := first | decide | omega | (simp only [go_sem]; first | done | omega)) only [go_sem, Int.reduceToNat, Nat.reduceMul, Nat.reduceAdd, Nat.reduceSub, ↓EU_region, ↓EU_draw, g7], by simp (maxSteps := 1000000) (disch := first | decide | omega | (simp only [go_sem]; first | done | omega)) only [go_sem, Int.reduceToNat, Nat.reduceMul, Nat.reduceAdd, Nat.reduceSub, ↓EU_region, ↓EU_draw, g8], by simp (maxSteps := 1000000) (disch := first | decide | omega | (simp only [go_sem]; first | done | omega)) only [go_sem, Int.reduceToNat, Nat.reduceMul, Nat.reduceAdd, Nat.reduceSub, ↓EU_region, ↓EU_draw, g9], by simp (maxSteps := 1000000) (disch := first | decide | omega | (simp only [go_sem]; first | done | omega)) only [go_sem, Int.reduceToNat, Nat.reduceMul, Nat.reduceAdd, Nat.reduceSub, ↓EU_region, ↓EU_draw, g10], p4, k4, by omega, b1, b2⟩
      have d0 : decide (op = 0) = false := decide_eq_false o0
      by_cases o1 : op = 1
      · have d1 : decide (op = 1) = true := decide_eq_true o1
        simp (maxSteps := 1000000) (disch := first | decide | omega | (simp only [go_sem]; first | done | omega)) only [go_sem, Int.reduceToNat, Nat.reduceMul, Nat.reduceAdd, Nat.reduceSub, ↓EU_region, ↓EU_draw, d0, d1, g5, g8, kA]
        repeat refine WPo_ob ?_
        refine (qdrop_ev pA.qr id (by omega)).mono ?_
        rintro ⟨v3, h3⟩ (⟨rfl, x3, hno⟩ | ⟨n, x, hx, hxid, rfl, lq', L', sq', cN, q', m', w', pp, hp', stn, hc⟩)
        · simp only at x3
          have x3 := x3.push (.cells [.int .i64 0, .int .i64 0] 0)
          have k3 := (x3.old _ (by omega : h'.next < hA.next)).trans kA
          have c3 : (h3.push (.cells [.int .i64 0, .int .i64 0] 0)).get h3.next = .cells [.int .i64 0, .int .i64 0] 0 := get_push_new _ _
          have n3 : (h3.push (.cells [.int .i64 0, .int .i64 0] 0)).next = h3.next + 1 := next_push _ _
          simp (maxSteps := 1000000) (disch := first | decide | omega | (simp only [go_sem]; first | done | omega)) only [go_sem, Int.reduceToNat, Nat.reduceMul, Nat.reduceAdd, Nat.reduceSub, ↓EU_region, ↓EU_draw, g6, g8]
          generalize h3.push (.cells [.int .i64 0, .int .i64 0] 0) = h3b at *
          simp (maxSteps := 1000000) (disch := first | decide | omega | (simp only [go_sem]; first | done | omega)) only [go_sem, Int.reduceToNat, Nat.reduceMul, Nat.reduceAdd, Nat.reduceSub, ↓EU_region, ↓EU_draw, g6, g8, k3]
          repeat refine WPo_ob ?_
          refine (rdrop_ev (pA.rr.ext x3) id (by omega)).mono ?_
          rintro ⟨v4, h4⟩ (⟨rfl, x4, _⟩ | ⟨k, y, hy, hyid, _⟩)
          · simp only at x4
            have x4 := x4.push (.cells [.int .i64 0, .int .i64 0, .int .i64 0] 0)
            have k4 := (x4.old _ (by have := x3.le; omega)).trans k3
            have c34 := (x4.old _ (by omega)).trans c3
            have c4 : (h4.push (.cells [.int .i64 0, .int .i64 0, .int .i64 0] 0)).get h4.next = .cells [.int .i64 0, .int .i64 0, .int .i64 0] 0 := get_push_new _ _
            have n4 : (h4.push (.cells [.int .i64 0, .int .i64 0, .int .i64 0] 0)).next = h4.next + 1 := next_push _ _
            have x34 := x3.trans x4
            have hle4 := x34.le
            simp (maxSteps := 1000000) (disch := first | decide | omega | (simp only [go_sem]; first | done | omega)) only [go_sem, Int.reduceToNat, Nat.reduceMul, Nat.reduceAdd, Nat.reduceSub, ↓EU_region, ↓EU_draw, g6, g8]
            generalize h4.push (.cells [.int .i64 0, .int .i64 0, .int .i64 0] 0) = h4b at *
            simp (maxSteps := 1000000) (disch := first | decide | omega | (simp only [go_sem]; first | done | omega)) only [go_sem, Int.reduceToNat, Nat.reduceMul, Nat.reduceAdd, Nat.reduceSub, ↓EU_region, ↓EU_draw, c34, c4, dt, bs]
            exact ⟨_, h4b, _, _, _, _, _, rfl, by simp (maxSteps := 1000000) (disch := first | decide | omega | (simp only [go_sem]; first | done | omega)) only [go_sem, Int.reduceToNat, Nat.reduceMul, Nat.reduceAdd, Nat.reduceSub, ↓EU_region, ↓EU_draw, g1], by simp (maxSteps := 1000000) (disch := first | decide | omega | (simp only [go_sem]; first | done | omega)) only [go_sem, Int.reduceToNat, Nat.reduceMul, Nat.reduceAdd, Nat.reduceSub, ↓EU_region, ↓EU_draw, g5], by simp (maxSteps := 1000000) (disch := first | decide | omega | (simp only [go_sem]; first | done | omega)) only [go_sem, Int.reduceToNat, Nat.reduceMul, Nat.reduceAdd, Nat.reduceSub, ↓EU_region, ↓EU_draw, g6], by simp (maxSteps := 1000000) (disch := first | decide | omega | (simp only [go_sem]; first | done | omega)) only [go_sem, Int.reduceToNat, Nat.reduceMul, Nat.reduceAdd, Nat.reduceSub, ↓EU_region, ↓EU_draw, g7], by simp (maxSteps := 1000000) (disch := first | decide | omega | (simp only [go_sem]; first | done | omega)) only [go_sem, Int.reduceToNat, Nat.reduceMul, Nat.reduceAdd, Nat.reduceSub, ↓EU_region, ↓EU_draw, g8], by simp (maxSteps := 1000000) (disch := first | decide | omega | (simp only [go_sem]; first | done | omega)) only [go_sem, Int.reduceToNat, Nat.reduceMul, Nat.reduceAdd, Nat.reduceSub, ↓EU_region, ↓EU_draw, g9], by simp (maxSteps := 1000000) (disch := first | decide | omega | (simp only [go_sem]; first | done | omega)) only [go_sem, Int.reduceToNat, Nat.reduceMul, Nat.reduceAdd, Nat.reduceSub, ↓EU_region, ↓EU_draw, g10], (pA.ext x34).up, k4, by omega, Int.le_refl _, by omega⟩
          · exact absurd hyid (p.lk.mem hno k y hy)
        · simp only at q' m'
          have k3 := (m'.old _ (by omega : h'.next < hA.next) (fun e => Nat.lt_irrefl _ (nq' _ e))).trans kA
          have rr3 := pA.rr.modO m' (fun j e1 e2 => p.dj j e2 e1)
          have hl3 := m'.le
          have k3o := k3
          have x3 : Ext h3 (h3.push (.cells [.int .i64 x.key, .int .i64 x.id] 0)) := (Ext.refl h3).push _
          have k3 := (x3.old _ (by omega : h'.next < h3.next)).trans k3
          have c3 : (h3.push (.cells [.int .i64 x.key, .int .i64 x.id] 0)).get h3.next = .cells [.int .i64 x.key, .int .i64 x.id] 0 := get_push_new _ _
          have n3 : (h3.push (.cells [.int .i64 x.key, .int .i64 x.id] 0)).next = h3.next + 1 := next_push _ _
          have q' := q'.ext x3
          have m' := m'.trans (x3.mod _)
          have rr3 := rr3.ext x3
          unfold qE
          simp (maxSteps := 1000000) (disch := first | decide | omega | (simp only [go_sem]; first | done | omega)) only [go_sem, Int.reduceToNat, Nat.reduceMul, Nat.reduceAdd, Nat.reduceSub, ↓EU_region, ↓EU_draw, g6, g8, k3o]
          generalize h3.push (.cells [.int .i64 x.key, .int .i64 x.id] 0) = h3b at *
          repeat refine WPo_ob ?_
          refine (rdrop_ev rr3 id (by omega)).mono ?_
          rintro ⟨v4, h4⟩ (⟨_, _, hn2⟩ | ⟨k, y, hy, hyid, rfl, vw', r4, m4, f4⟩)
          · exact absurd hxid (p.lk.mem' hn2 n x hx)
          simp only at r4 m4 f4
          have hyx := p.lk.find pA.qr.nodup hy hx (hyid.trans hxid.symm)
          have hyk : x.key = y.key := by rw [← hyx]; rfl
          have hyi : x.id = y.id := hxid.trans hyid.symm
          have hl4 := m4.le
          have x4 : Ext h4 (h4.push (.cells [.int .i64 y.key, .int .i64 y.due, .int .i64 y.id] 0)) := (Ext.refl h4).push _
          have k4 := (x4.old h'.next (by omega)).trans ((m4.old h'.next (by omega) (fun e => by have := nw' bw (.inl rfl); omega)).trans k3)
          have c34 := (x4.old h3.next (by omega)).trans ((m4.old h3.next (by omega) (fun e => by have := nw' bw (.inl rfl); omega)).trans c3)
          have c4 : (h4.push (.cells [.int .i64 y.key, .int .i64 y.due, .int .i64 y.id] 0)).get h4.next = .cells [.int .i64 y.key, .int .i64 y.due, .int .i64 y.id] 0 := get_push_new _ _
          have n4 : (h4.push (.cells [.int .i64 y.key, .int .i64 y.due, .int .i64 y.id] 0)).next = h4.next + 1 := next_push _ _
          have hll := pp.length_eq
          rw [List.length_cons] at hll
          obtain ⟨p4, _, b1, b2⟩ := pA.both q' m' (fun j e => .inl (w' j e)) (r4.ext x4) (m4.trans (x4.mod _)) (fun j e => .inl (f4 j e)) (p.lk.del hy (by rw [hyx]; exact pp)) hp' (by omega) (by have := p.lm; omega) stn hc (by omega) hbS
          unfold rE
          simp (maxSteps := 1000000) (disch := first | decide | omega | (simp only [go_sem]; first | done | omega)) only [go_sem, Int.reduceToNat, Nat.reduceMul, Nat.reduceAdd, Nat.reduceSub, ↓EU_region, ↓EU_draw, g6, g8]
          generalize h4.push (.cells [.int .i64 y.key, .int .i64 y.due, .int .i64 y.id] 0) = h4b at *
          simp (maxSteps := 1000000) (disch := first | decide | omega | (simp only [go_sem]; first | done | omega)) only [go_sem, Int.reduceToNat, Nat.reduceMul, Nat.reduceAdd, Nat.reduceSub, ↓EU_region, ↓EU_draw, c34, c4, hyk, hyi, dt, bs]
          exact ⟨_, h4b, _, _, _, _, _, rfl, by simp (maxSteps := 1000000) (disch := first | decide | omega | (simp only [go_sem]; first | done | omega)) only [go_sem, Int.reduceToNat, Nat.reduceMul, Nat.reduceAdd, Nat.reduceSub, ↓EU_region, ↓EU_draw, g1], by simp (maxSteps := 1000000) (disch := first | decide | omega | (simp only [go_sem]; first | done | omega)) only [go_sem, Int.reduceToNat, Nat.reduceMul, Nat.reduceAdd, Nat.reduceSub, ↓EU_region, ↓EU_draw, g5], by simp (maxSteps := 1000000) (disch := first | decide | omega | (simp only [go_sem]; first | done | omega)) only [go_sem, Int.reduceToNat, Nat.reduceMul, Nat.reduceAdd, Nat.reduceSub, ↓EU_region, ↓EU_draw, g6], by simp (maxSteps := 1000000) (disch := first | decide | omega | (simp only [go_sem]; first | done | omega)) only [go_sem, Int.reduceToNat, Nat.reduceMul, Nat.reduceAdd, Nat.reduceSub, ↓EU_region, ↓EU_draw, g7], by simp (maxSteps := 1000000) (disch := first | decide | omega | (simp only [go_sem]; first | done | omega)) only [go_sem, Int.reduceToNat, Nat.reduceMul, Nat.reduceAdd, Nat.reduceSub, ↓EU_region, ↓EU_draw, g8], by simp (maxSteps := 1000000) (disch := first | decide | omega | (simp only [go_sem]; first | done | omega)) only [go_sem, Int.reduceToNat, Nat.reduceMul, Nat.reduceAdd, Nat.reduceSub, ↓EU_region, ↓EU_draw, g9], by simp (maxSteps := 1000000) (disch := first | decide | omega | (simp only [go_sem]; first | done | omega)) only [go_sem, Int.reduceToNat, Nat.reduceMul, Nat.reduceAdd, Nat.reduceSub, ↓EU_region, ↓EU_draw, g10], p4, k4, by omega, b1, b2⟩
      have d1 : decide (op = 1) = false := decide_eq_false o1
      by_cases o2 : op = 2
      · have d2 : decide (op = 2) = true := decide_eq_true o2
        simp (maxSteps := 1000000) (disch := first | decide | omega | (simp only [go_sem]; first | done | omega)) only [go_sem, Int.reduceToNat, Nat.reduceMul, Nat.reduceAdd, Nat.reduceSub, ↓EU_region, ↓EU_draw, d0, d1, d2, g5, g8, kA]
        repeat refine WPo_ob ?_
        refine (qset_ev pA.qr id key (by omega)).mono ?_
        rintro ⟨v3, h3⟩ (⟨rfl, e, hno⟩ | ⟨n, x, hx, hxid, rfl, L', sq', cN, q', m', pp, hp', stn, hc⟩)
        · simp only at e
          have e := e.symm
          subst e
          simp (maxSteps := 1000000) (disch := first | decide | omega | (simp only [go_sem]; first | done | omega)) only [go_sem, Int.reduceToNat, Nat.reduceMul, Nat.reduceAdd, Nat.reduceSub, ↓EU_region, ↓EU_draw, g6, g8, kA]
          repeat refine WPo_ob ?_
          refine (rdrop_ev pA.rr id (by omega)).mono ?_
          rintro ⟨v4, h4⟩ (⟨rfl, x4, _⟩ | ⟨k, y, hy, hyid, _⟩)
          · simp only at x4
            have x4 := x4.push (.cells [.int .i64 0, .int .i64 0, .int .i64 0] 0)
            have k4 := (x4.old _ (by omega : h'.next < hA.next)).trans kA
            have n4 : (h4.push (.cells [.int .i64 0, .int .i64 0, .int .i64 0] 0)).next = h4.next + 1 := next_push _ _
            have hle4 := x4.le
            simp (maxSteps := 1000000) (disch := first | decide | omega | (simp only [go_sem]; first | done | omega)) only [go_sem, Int.reduceToNat, Nat.reduceMul, Nat.reduceAdd, Nat.reduceSub, ↓EU_region, ↓EU_draw, g6, g8]
            generalize h4.push (.cells [.int .i64 0, .int .i64 0, .int .i64 0] 0) = h4b at *
            simp (maxSteps := 1000000) (disch := first | decide | omega | (simp only [go_sem]; first | done | omega)) only [go_sem, Int.reduceToNat, Nat.reduceMul, Nat.reduceAdd, Nat.reduceSub, ↓EU_region, ↓EU_draw, bs]
            exact ⟨_, h4b, _, _, _, _, _, rfl, by simp (maxSteps := 1000000) (disch := first | decide | omega | (simp only [go_sem]; first | done | omega)) only [go_sem, Int.reduceToNat, Nat.reduceMul, Nat.reduceAdd, Nat.reduceSub, ↓EU_region, ↓EU_draw, g1], by simp (maxSteps := 1000000) (disch := first | decide | omega | (simp only [go_sem]; first | done | omega)) only [go_sem, Int.reduceToNat, Nat.reduceMul, Nat.reduceAdd, Nat.reduceSub, ↓EU_region, ↓EU_draw, g5], by simp (maxSteps := 1000000) (disch := first | decide | omega | (simp only [go_sem]; first | done | omega)) only [go_sem, Int.reduceToNat, Nat.reduceMul, Nat.reduceAdd, Nat.reduceSub, ↓EU_region, ↓EU_draw, g6], by simp (maxSteps := 1000000) (disch := first | decide | omega | (simp only [go_sem]; first | done | omega)) only [go_sem, Int.reduceToNat, Nat.reduceMul, Nat.reduceAdd, Nat.reduceSub, ↓EU_region, ↓EU_draw, g7], by simp (maxSteps := 1000000) (disch := first | decide | omega | (simp only [go_sem]; first | done | omega)) only [go_sem, Int.reduceToNat, Nat.reduceMul, Nat.reduceAdd, Nat.reduceSub, ↓EU_region, ↓EU_draw, g8], by simp (maxSteps := 1000000) (disch := first | decide | omega | (simp only [go_sem]; first | done | omega)) only [go_sem, Int.reduceToNat, Nat.reduceMul, Nat.reduceAdd, Nat.reduceSub, ↓EU_region, ↓EU_draw, g9], by simp (maxSteps := 1000000) (disch := first | decide | omega | (simp only [go_sem]; first | done | omega)) only [go_sem, Int.reduceToNat, Nat.reduceMul, Nat.reduceAdd, Nat.reduceSub, ↓EU_region, ↓EU_draw, g10], (pA.ext x4).up, k4, by omega, Int.le_refl _, by omega⟩
          · exact absurd hyid (p.lk.mem hno k y hy)
        · simp only at q' m'
          have k3 := (m'.old _ (by omega : h'.next < hA.next) (fun e => Nat.lt_irrefl _ (nq' _ e))).trans kA
          have rr3 := pA.rr.modO m' (fun j e1 e2 => p.dj j e2 e1)
          have hl3 := m'.le
          simp (maxSteps := 1000000) (disch := first | decide | omega | (simp only [go_sem]; first | done | omega)) only [go_sem, Int.reduceToNat, Nat.reduceMul, Nat.reduceAdd, Nat.reduceSub, ↓EU_region, ↓EU_draw, g6, g8, k3]
          repeat refine WPo_ob ?_
          refine (rdrop_ev rr3 id (by omega)).mono ?_
          rintro ⟨v4, h4⟩ (⟨_, _, hn2⟩ | ⟨k, y, hy, hyid, rfl, vw', r4, m4, f4⟩)
          · exact absurd hxid (p.lk.mem' hn2 n x hx)
          simp only at r4 m4 f4
          have hyx := p.lk.find pA.qr.nodup hy hx (hyid.trans hxid.symm)
          have hl4 := m4.le
          have x4 : Ext h4 (h4.push (.cells [.int .i64 y.key, .int .i64 y.due, .int .i64 y.id] 0)) := (Ext.refl h4).push _
          have k4o := (m4.old h'.next (by omega) (fun e => by have := nw' bw (.inl rfl); omega)).trans k3
          have k4 := (x4.old h'.next (by omega)).trans k4o
          have c4 : (h4.push (.cells [.int .i64 y.key, .int .i64 y.due, .int .i64 y.id] 0)).get h4.next = .cells [.int .i64 y.key, .int .i64 y.due, .int .i64 y.id] 0 := get_push_new _ _
          have n4 : (h4.push (.cells [.int .i64 y.key, .int .i64 y.due, .int .i64 y.id] 0)).next = h4.next + 1 := next_push _ _
          have r4 := r4.ext x4
          have m4 := m4.trans (x4.mod _)
          obtain ⟨r, hr1, hr2⟩ := set_perm (y := ⟨key, id⟩) hx
          have lk4 := p.lk.del hy (by rw [hyx]; exact hr1)
          have hkl := (List.getElem?_eq_some_iff.1 hy).1
          have hlen4 : (W.take k ++ W.drop (k + 1)).length + 1 = L.length := by rw [List.length_append, List.length_take, List.length_drop]; omega
          unfold rE
          simp (maxSteps := 1000000) (disch := first | decide | omega | (simp only [go_sem]; first | done | omega)) only [go_sem, Int.reduceToNat, Nat.reduceMul, Nat.reduceAdd, Nat.reduceSub, ↓EU_region, ↓EU_draw, g6, g8, k4o]
          generalize h4.push (.cells [.int .i64 y.key, .int .i64 y.due, .int .i64 y.id] 0) = h4b at *
          repeat refine WPo_ob ?_
          refine (rput_ev r4 ⟨key, 0, y.id⟩ (by omega)).mono ?_
          have nid : ∀ (n : Nat) (z : RI), (W.take k ++ W.drop (k + 1))[n]? = some z → z.id ≠ y.id := fun n z hz => lk4.mem (id := y.id) (fun j u hu e => by
            have nd := pA.qr.nodup
            have nd2 := (hr1.map (·.id)).nodup_iff.1 nd
            rw [List.map_cons, List.nodup_cons] at nd2
            exact nd2.1 (by
              have : x.id = u.id := by rw [e, hyid, hxid]
              rw [this]
              exact List.mem_map_of_mem (List.mem_of_getElem? hu))) n z hz
          rintro ⟨v5, h5⟩ (⟨_, _, n5, y5, hy5, hyid5⟩ | ⟨_, ⟨_, _, hge⟩ | ⟨rfl, hlt, vw5, k5, r5, m5, f5, hk5, hk51, hk52⟩⟩)
          · exact absurd hyid5 (nid n5 y5 hy5)
          · have := p.lm; omega
          · simp only at r5 m5 f5
            have k5' := (m5.old h'.next (by omega) (fun e => by have := nw' bw (.inl rfl); omega)).trans k4
            have n5 := m5.le
            have ll := pp.length_eq
            rw [List.length_set] at ll
            have pz : L'.Perm (toQ ⟨key, 0, y.id⟩ :: r) := by
              have := pp.trans hr2
              rw [hyid]
              exact this
            obtain ⟨p5, _, b1, b2⟩ := pA.both q' m' (fun j e => .inl e) r5 (m4.trans m5) (fun j e => .inl (by have := f5 j e; omega)) (lk4.ins hk5 hk51 hk52 pz) hp' (by omega) (by have := p.lm; omega) stn hc (by omega) hbS
            simp (maxSteps := 1000000) (disch := first | decide | omega | (simp only [go_sem]; first | done | omega)) only [go_sem, Int.reduceToNat, Nat.reduceMul, Nat.reduceAdd, Nat.reduceSub, ↓EU_region, ↓EU_draw, bs]
            exact ⟨_, h5, _, _, _, _, _, rfl, by simp (maxSteps := 1000000) (disch := first | decide | omega | (simp only [go_sem]; first | done | omega)) only [go_sem, Int.reduceToNat, Nat.reduceMul, Nat.reduceAdd, Nat.reduceSub, ↓EU_region, ↓EU_draw, g1], by simp (maxSteps := 1000000) (disch := first | decide | omega | (simp only [go_sem]; first | done | omega)) only [go_sem, Int.reduceToNat, Nat.reduceMul, Nat.reduceAdd, Nat.reduceSub, ↓EU_region, ↓EU_draw, g5], by simp (maxSteps := 1000000) (disch := first | decide | omega | (simp only [go_sem]; first | done | omega)) only [go_sem, Int.reduceToNat, Nat.reduceMul, Nat.reduceAdd, Nat.reduceSub, ↓EU_region, ↓EU_draw, g6], by simp (maxSteps := 1000000) (disch := first | decide | omega | (simp only [go_sem]; first | done | omega)) only [go_sem, Int.reduceToNat, Nat.reduceMul, Nat.reduceAdd, Nat.reduceSub, ↓EU_region, ↓EU_draw, g7], by simp (maxSteps := 1000000) (disch := first | decide | omega | (simp only [go_sem]; first | done | omega)) only [go_sem, Int.reduceToNat, Nat.reduceMul, Nat.reduceAdd, Nat.reduceSub, ↓EU_region, ↓EU_draw, g8], by simp (maxSteps := 1000000) (disch := first | decide | omega | (simp only [go_sem]; first | done | omega)) only [go_sem, Int.reduceToNat, Nat.reduceMul, Nat.reduceAdd, Nat.reduceSub, ↓EU_region, ↓EU_draw, g9], by simp (maxSteps := 1000000) (disch := first | decide | omega | (simp only [go_sem]; first | done | omega)) only [go_sem, Int.reduceToNat, Nat.reduceMul, Nat.reduceAdd, Nat.reduceSub, ↓EU_region, ↓EU_draw, g10], p5, k5', by omega, b1, b2⟩
      have d2 : decide (op = 2) = false := decide_eq_false o2
      simp (maxSteps := 1000000) (disch := first | decide | omega | (simp only [go_sem]; first | done | omega)) only [go_sem, Int.reduceToNat, Nat.reduceMul, Nat.reduceAdd, Nat.reduceSub, ↓EU_region, ↓EU_draw, d0, d1, d2, g5, g8, kA]
      repeat refine WPo_ob ?_
      obtain ⟨mv, hmin, hcase⟩ := qmin2 pA.qr
      refine hmin.bind fun h3 x3 => ?_
      have hle3 := x3.le
      rcases hcase with ⟨hL0, rfl⟩ | ⟨x, t, hL0, rfl⟩
      · have x4 := x3.push (.cells [.int .i64 0, .int .i64 0] 0)
        have k4 := (x4.old _ (by omega : h'.next < hA.next)).trans kA
        have n4 : (h3.push (.cells [.int .i64 0, .int .i64 0] 0)).next = h3.next + 1 := next_push _ _
        have cb4 := (pA.rr.ext x3).cb
        rw [hvw] at cb4
        have p4 := (pA.ext x4).up
        have hW0 : W.length = 0 := by rw [hWl, hL0]; rfl
        rw [hW0] at cb4
        have dz : decide ((0 : Int) < ((0 : Nat) : Int)) = false := by decide
        simp (maxSteps := 1000000) (disch := first | decide | omega | (simp only [go_sem]; first | done | omega)) only [go_sem, Int.reduceToNat, Nat.reduceMul, Nat.reduceAdd, Nat.reduceSub, ↓EU_region, ↓EU_draw, g6, cb4, dz, bs]
        generalize h3.push (.cells [.int .i64 0, .int .i64 0] 0) = h3b at *
        exact ⟨_, h3b, _, _, _, _, _, rfl, by simp (maxSteps := 1000000) (disch := first | decide | omega | (simp only [go_sem]; first | done | omega)) only [go_sem, Int.reduceToNat, Nat.reduceMul, Nat.reduceAdd, Nat.reduceSub, ↓EU_region, ↓EU_draw, g1], by simp (maxSteps := 1000000) (disch := first | decide | omega | (simp only [go_sem]; first | done | omega)) only [go_sem, Int.reduceToNat, Nat.reduceMul, Nat.reduceAdd, Nat.reduceSub, ↓EU_region, ↓EU_draw, g5], by simp (maxSteps := 1000000) (disch := first | decide | omega | (simp only [go_sem]; first | done | omega)) only [go_sem, Int.reduceToNat, Nat.reduceMul, Nat.reduceAdd, Nat.reduceSub, ↓EU_region, ↓EU_draw, g6], by simp (maxSteps := 1000000) (disch := first | decide | omega | (simp only [go_sem]; first | done | omega)) only [go_sem, Int.reduceToNat, Nat.reduceMul, Nat.reduceAdd, Nat.reduceSub, ↓EU_region, ↓EU_draw, g7], by simp (maxSteps := 1000000) (disch := first | decide | omega | (simp only [go_sem]; first | done | omega)) only [go_sem, Int.reduceToNat, Nat.reduceMul, Nat.reduceAdd, Nat.reduceSub, ↓EU_region, ↓EU_draw, g8], by simp (maxSteps := 1000000) (disch := first | decide | omega | (simp only [go_sem]; first | done | omega)) only [go_sem, Int.reduceToNat, Nat.reduceMul, Nat.reduceAdd, Nat.reduceSub, ↓EU_region, ↓EU_draw, g9], by simp (maxSteps := 1000000) (disch := first | decide | omega | (simp only [go_sem]; first | done | omega)) only [go_sem, Int.reduceToNat, Nat.reduceMul, Nat.reduceAdd, Nat.reduceSub, ↓EU_region, ↓EU_draw, g10], p4, k4, by omega, Int.le_refl _, by omega⟩
      · have x4 := x3.push (.cells [.int .i64 x.key, .int .i64 x.id] 0)
        have k4 := (x4.old _ (by omega : h'.next < hA.next)).trans kA
        have n4 : (h3.push (.cells [.int .i64 x.key, .int .i64 x.id] 0)).next = h3.next + 1 := next_push _ _
        obtain ⟨y, hy, hyx⟩ := p.lk.first p.hp hL0
        have rw3 := pA.rr.ext x3
        have cb4 := rw3.cb
        obtain ⟨B7, o7, c7, e7, hB7, _, r7⟩ := rw3.ow.sl.at hy rfl
        have r70 := r7 0 _ rfl
        have r72 := r7 2 _ rfl
        rw [e7] at cb4
        have p4 := (pA.ext x4).up
        have hwp : 0 < W.length := by rw [hWl, hL0]; simp only [List.length_cons]; omega
        have dz : decide ((0 : Int) < (W.length : Int)) = true := decide_eq_true (by omega)
        have ek : x.key = y.key := by rw [← hyx]; rfl
        have ei : x.id = y.id := by rw [← hyx]; rfl
        simp only [Nat.zero_mul, Nat.add_zero] at r70 r72
        rw [ek, ei]
        simp (maxSteps := 1000000) (disch := first | decide | omega | (simp only [go_sem]; first | done | omega)) only [go_sem, Int.reduceToNat, Nat.reduceMul, Nat.reduceAdd, Nat.reduceSub, ↓EU_region, ↓EU_draw, g6, cb4, dz, bs, r70, r72, dt]
        rw [ek, ei] at x4 k4 n4 p4
        generalize h3.push (.cells [.int .i64 y.key, .int .i64 y.id] 0) = h3b at *
        exact ⟨_, h3b, _, _, _, _, _, rfl, by simp (maxSteps := 1000000) (disch := first | decide | omega | (simp only [go_sem]; first | done | omega)) only [go_sem, Int.reduceToNat, Nat.reduceMul, Nat.reduceAdd, Nat.reduceSub, ↓EU_region, ↓EU_draw, g1], by simp (maxSteps := 1000000) (disch := first | decide | omega | (simp only [go_sem]; first | done | omega)) only [go_sem, Int.reduceToNat, Nat.reduceMul, Nat.reduceAdd, Nat.reduceSub, ↓EU_region, ↓EU_draw, g5], by simp (maxSteps := 1000000) (disch := first | decide | omega | (simp only [go_sem]; first | done | omega)) only [go_sem, Int.reduceToNat, Nat.reduceMul, Nat.reduceAdd, Nat.reduceSub, ↓EU_region, ↓EU_draw, g6], by simp (maxSteps := 1000000) (disch := first | decide | omega | (simp only [go_sem]; first | done | omega)) only [go_sem, Int.reduceToNat, Nat.reduceMul, Nat.reduceAdd, Nat.reduceSub, ↓EU_region, ↓EU_draw, g7], by simp (maxSteps := 1000000) (disch := first | decide | omega | (simp only [go_sem]; first | done | omega)) only [go_sem, Int.reduceToNat, Nat.reduceMul, Nat.reduceAdd, Nat.reduceSub, ↓EU_region, ↓EU_draw, g8], by simp (maxSteps := 1000000) (disch := first | decide | omega | (simp only [go_sem]; first | done | omega)) only [go_sem, Int.reduceToNat, Nat.reduceMul, Nat.reduceAdd, Nat.reduceSub, ↓EU_region, ↓EU_draw, g9], by simp (maxSteps := 1000000) (disch := first | decide | omega | (simp only [go_sem]; first | done | omega)) only [go_sem, Int.reduceToNat, Nat.reduceMul, Nat.reduceAdd, Nat.reduceSub, ↓EU_region, ↓EU_draw, g10], p4, k4, by omega, Int.le_refl _, by omega⟩
    clear g1 g5 g6 g7 g8 g9 g10
    rintro _ ⟨tm, h2, lq2, vw2, sq2, L2, W2, rfl, g1, g5, g6, g7, g8, g9, g10, p2, k2, n2, b1, b2⟩
    have st2 := qsteps_ev p2.qr
    have ql2 := qlen_ev p2.qr
    have s0 := p.s0
    have s1 := p.s1
    have hL2 := p2.le
    have hW2 := p2.lk.len
    have hbl : bl (L.length + 1) ≤ bl W.length + 1 := by rw [hWl]; exact hbu
    have w1 : wrapF .i64 (sq2 - sq) = sq2 - sq := wrap64 (by omega)
    have w2 : wrapF .i64 ((bl W.length : Int) + 2) = (bl W.length : Int) + 2 := wrap64 (by omega)
    have w3 : wrapF .i64 (4 * ((bl W.length : Int) + 2)) = 4 * ((bl W.length : Int) + 2) := wrap64 (by omega)
    have d1 : decide (4 * ((bl W.length : Int) + 2) < sq2 - sq) = false := decide_eq_false (by omega)
    have d2 : decide (sq2 < sq) = false := decide_eq_false (by omega)
    simp (maxSteps := 1000000) (disch := first | decide | omega | (simp only [go_sem]; first | done | omega)) only [go_sem, Int.reduceToNat, Nat.reduceMul, Nat.reduceAdd, Nat.reduceSub, ↓EU_region, ↓EU_draw, g5, g9, g10, st2, w1, w2, w3, d1, d2, g6, g8, k2]
    repeat refine WPo_ob ?_
    refine (at_ev p2.rr id (by omega)).mono ?_
    rintro ⟨v3, h3⟩ ⟨e, r⟩
    simp only at e r
    have e := e.symm
    subst e
    have hk : ∃ (kz ky : Int) (tb : Bool), v3 = .int .i64 kz ∧ EF Try.prog O0 17 [ptr bq 0, .int .i64 id] h2 = some (.tuple ⟨[.int .i64 ky, .bool tb]⟩, h2) ∧ decide (kz ≥ 0) = tb ∧ (tb = true → ∃ (n : Nat) (y : RI), kz = (n : Int) ∧ W2[n]? = some y ∧ ky = y.key) := by
      rcases qkey_ev p2.qr id with ⟨n, x, hx, hxid, e⟩ | ⟨hno, e⟩
      · rcases r with ⟨k, y, hy, hyid, e3⟩ | ⟨hn2, _⟩
        · have hyx := p2.lk.find p2.qr.nodup hy hx (hyid.trans hxid.symm)
          exact ⟨(k : Int), x.key, true, e3, e, decide_eq_true (by omega), fun _ => ⟨k, y, rfl, hy, by rw [← hyx]; rfl⟩⟩
        · exact absurd hxid (p2.lk.mem' hn2 n x hx)
      · rcases r with ⟨k, y, hy, hyid, e3⟩ | ⟨hn2, e3⟩
        · exact absurd hyid (p2.lk.mem hno k y hy)
        · exact ⟨-1, 0, false, e3, e, rfl, fun e => by cases e⟩
    obtain ⟨kz, ky, tb, rfl, hkey, hkd, hkt⟩ := hk
    simp (maxSteps := 1000000) (disch := first | decide | omega | (simp only [go_sem]; first | done | omega)) only [go_sem, Int.reduceToNat, Nat.reduceMul, Nat.reduceAdd, Nat.reduceSub, ↓EU_region, ↓EU_draw, g5, g8, k2, hkey]
    repeat refine WPo_ob ?_
    refine WPo.mono (Q := fun q => ∃ tm, q = (.normal, ⟨tm, h2, []⟩) ∧ Fr.get tm 237 = .bool false ∧ Fr.get tm 1 = .slice (some ⟨B, o, none⟩) l.length c ∧ Fr.get tm 5 = ptr bq 0 ∧ Fr.get tm 6 = ptr bw 0 ∧ Fr.get tm 7 = .int .i64 (i : Int) ∧ Fr.get tm 8 = ptr h'.next 0) ?_ ?_
    · have cb2 := p2.rr.cb
      have bl2 := p2.rr.bl
      obtain ⟨a2, c2, hv2⟩ := p2.rr.ow.val
      cases tb with
      | true =>
        obtain ⟨n, y, rfl, hy, rfl⟩ := hkt rfl
        have hyn := (List.getElem?_eq_some_iff.1 hy).1
        obtain ⟨B7, o7, c7, e7, hB7, _, r7⟩ := p2.rr.ow.sl.at hy rfl
        have r70 := r7 0 _ rfl
        rw [add_z] at r70
        rw [e7] at cb2
        rw [EU_bad _ _ rfl, EC_tab (tab := [(false, none), (false, none), (false, none), (false, none), (false, none), (false, none), (false, none), (false, none), (false, none), (false, none), (false, none), (false, none), (false, none), (false, none), (false, none), (false, none), (false, none), (false, none), (false, none), (false, none), (false, none), (true, none), (false, none), (false, none), (false, none), (false, (some (0, 1))), (false, (some (0, 1))), (false, none), (false, none)]) (by kernel_rfl)]
        simp (maxSteps := 1000000) (disch := first | decide | omega | (simp only [go_sem]; first | done | omega)) only [go_sem, Int.reduceToNat, Nat.reduceMul, Nat.reduceAdd, Nat.reduceSub, ↓EU_region, ↓EU_draw, g5, g6, g8, k2, hkd, bs, cb2, r70, dt, ql2, hW2]
        exact ⟨_, rfl, by simp (maxSteps := 1000000) (disch := first | decide | omega | (simp only [go_sem]; first | done | omega)) only [go_sem, Int.reduceToNat, Nat.reduceMul, Nat.reduceAdd, Nat.reduceSub, ↓EU_region, ↓EU_draw], by simp (maxSteps := 1000000) (disch := first | decide | omega | (simp only [go_sem]; first | done | omega)) only [go_sem, Int.reduceToNat, Nat.reduceMul, Nat.reduceAdd, Nat.reduceSub, ↓EU_region, ↓EU_draw, g1], by simp (maxSteps := 1000000) (disch := first | decide | omega | (simp only [go_sem]; first | done | omega)) only [go_sem, Int.reduceToNat, Nat.reduceMul, Nat.reduceAdd, Nat.reduceSub, ↓EU_region, ↓EU_draw, g5], by simp (maxSteps := 1000000) (disch := first | decide | omega | (simp only [go_sem]; first | done | omega)) only [go_sem, Int.reduceToNat, Nat.reduceMul, Nat.reduceAdd, Nat.reduceSub, ↓EU_region, ↓EU_draw, g6], by simp (maxSteps := 1000000) (disch := first | decide | omega | (simp only [go_sem]; first | done | omega)) only [go_sem, Int.reduceToNat, Nat.reduceMul, Nat.reduceAdd, Nat.reduceSub, ↓EU_region, ↓EU_draw, g7], by simp (maxSteps := 1000000) (disch := first | decide | omega | (simp only [go_sem]; first | done | omega)) only [go_sem, Int.reduceToNat, Nat.reduceMul, Nat.reduceAdd, Nat.reduceSub, ↓EU_region, ↓EU_draw, g8]⟩
      | false =>
        have vq := p2.rr.ow.sl.veq
        rw [hv2] at cb2 vq
        rw [hW2] at vq
        rw [EU_bad _ _ rfl, EC_tab (tab := [(false, none), (false, none), (false, none), (false, none), (false, none), (false, none), (false, none), (false, none), (false, none), (false, none), (false, none), (false, none), (false, none), (false, none), (false, none), (false, none), (false, none), (false, none), (false, none), (false, none), (false, none), (true, none), (false, none), (false, none), (false, none), (false, (some (0, 1))), (false, (some (0, 1))), (false, none), (false, none)]) (by kernel_rfl)]
        simp (maxSteps := 1000000) (disch := first | decide | omega | (simp only [go_sem]; first | done | omega)) only [go_sem, Int.reduceToNat, Nat.reduceMul, Nat.reduceAdd, Nat.reduceSub, ↓EU_region, ↓EU_draw, g5, g6, g8, k2, hkd, bs, cb2, dt, ql2, hW2, vq]
        exact ⟨_, rfl, by simp (maxSteps := 1000000) (disch := first | decide | omega | (simp only [go_sem]; first | done | omega)) only [go_sem, Int.reduceToNat, Nat.reduceMul, Nat.reduceAdd, Nat.reduceSub, ↓EU_region, ↓EU_draw], by simp (maxSteps := 1000000) (disch := first | decide | omega | (simp only [go_sem]; first | done | omega)) only [go_sem, Int.reduceToNat, Nat.reduceMul, Nat.reduceAdd, Nat.reduceSub, ↓EU_region, ↓EU_draw, g1], by simp (maxSteps := 1000000) (disch := first | decide | omega | (simp only [go_sem]; first | done | omega)) only [go_sem, Int.reduceToNat, Nat.reduceMul, Nat.reduceAdd, Nat.reduceSub, ↓EU_region, ↓EU_draw, g5], by simp (maxSteps := 1000000) (disch := first | decide | omega | (simp only [go_sem]; first | done | omega)) only [go_sem, Int.reduceToNat, Nat.reduceMul, Nat.reduceAdd, Nat.reduceSub, ↓EU_region, ↓EU_draw, g6], by simp (maxSteps := 1000000) (disch := first | decide | omega | (simp only [go_sem]; first | done | omega)) only [go_sem, Int.reduceToNat, Nat.reduceMul, Nat.reduceAdd, Nat.reduceSub, ↓EU_region, ↓EU_draw, g7], by simp (maxSteps := 1000000) (disch := first | decide | omega | (simp only [go_sem]; first | done | omega)) only [go_sem, Int.reduceToNat, Nat.reduceMul, Nat.reduceAdd, Nat.reduceSub, ↓EU_region, ↓EU_draw, g8]⟩
    clear g1 g5 g6 g7 g8 g9 g10
    rintro _ ⟨tm, rfl, g237, g1, g5, g6, g7, g8⟩
    have erm : (i : Int).tmod 8 = ((i % 8 : Nat) : Int) := rfl
    have wl1 : wrapF .i64 ((l.length : Int) - 1) = ((l.length - 1 : Nat) : Int) := by rw [wrap64 (by omega)]; omega
    by_cases hc : i % 8 = 7 ∨ i = l.length - 1
    rotate_left
    · have e1 : decide (((i % 8 : Nat) : Int) = 7) = false := decide_eq_false (by omega)
      have e2 : decide ((i : Int) = ((l.length - 1 : Nat) : Int)) = false := decide_eq_false (by omega)
      simp (maxSteps := 1000000) (disch := first | decide | omega | (simp only [go_sem]; first | done | omega)) only [go_sem, Int.reduceToNat, Nat.reduceMul, Nat.reduceAdd, Nat.reduceSub, ↓EU_region, ↓EU_draw, g237, g1, g7, bin_rem0, erm, e1, e2, wl1, hwi]
      exact ⟨_, by omega, i + 1, _, h2, _, _, _, _, _, rfl, rfl, by omega, by simp (maxSteps := 1000000) (disch := first | decide | omega | (simp only [go_sem]; first | done | omega)) only [go_sem, Int.reduceToNat, Nat.reduceMul, Nat.reduceAdd, Nat.reduceSub, ↓EU_region, ↓EU_draw, g1], by simp (maxSteps := 1000000) (disch := first | decide | omega | (simp only [go_sem]; first | done | omega)) only [go_sem, Int.reduceToNat, Nat.reduceMul, Nat.reduceAdd, Nat.reduceSub, ↓EU_region, ↓EU_draw, g5], by simp (maxSteps := 1000000) (disch := first | decide | omega | (simp only [go_sem]; first | done | omega)) only [go_sem, Int.reduceToNat, Nat.reduceMul, Nat.reduceAdd, Nat.reduceSub, ↓EU_region, ↓EU_draw, g6], by simp (maxSteps := 1000000) (disch := first | decide | omega | (simp only [go_sem]; first | done | omega)) only [go_sem, Int.reduceToNat, Nat.reduceMul, Nat.reduceAdd, Nat.reduceSub, ↓EU_region, ↓EU_draw], p2⟩
    refine WPo.mono (Q := fun q => q = (.normal, ⟨tm, h2, []⟩)) ?_ ?_
    · simp (maxSteps := 1000000) (disch := first | decide | omega | (simp only [go_sem]; first | done | omega)) only [go_sem, Int.reduceToNat, Nat.reduceMul, Nat.reduceAdd, Nat.reduceSub, ↓EU_region, ↓EU_draw, g237]
    rintro _ rfl
    simp (maxSteps := 1000000) (disch := first | decide | omega | (simp only [go_sem]; first | done | omega)) only [go_sem, Int.reduceToNat, Nat.reduceMul, Nat.reduceAdd, Nat.reduceSub]
    repeat refine WPo_ob ?_
    refine WPo.mono (Q := fun q => ∃ tm, q = (.normal, ⟨tm, h2, []⟩) ∧ Fr.get tm 247 = .bool true ∧ Fr.get tm 1 = .slice (some ⟨B, o, none⟩) l.length c ∧ Fr.get tm 5 = ptr bq 0 ∧ Fr.get tm 6 = ptr bw 0 ∧ Fr.get tm 7 = .int .i64 (i : Int) ∧ Fr.get tm 8 = ptr h'.next 0) ?_ ?_
    · by_cases h8 : i % 8 = 7
      · have e1 : decide (((i % 8 : Nat) : Int) = 7) = true := decide_eq_true (by omega)
        simp (maxSteps := 1000000) (disch := first | decide | omega | (simp only [go_sem]; first | done | omega)) only [go_sem, Int.reduceToNat, Nat.reduceMul, Nat.reduceAdd, Nat.reduceSub, ↓EU_region, ↓EU_draw, g1, g7, bin_rem0, erm, wl1, e1]
        exact ⟨_, rfl, by simp (maxSteps := 1000000) (disch := first | decide | omega | (simp only [go_sem]; first | done | omega)) only [go_sem, Int.reduceToNat, Nat.reduceMul, Nat.reduceAdd, Nat.reduceSub, ↓EU_region, ↓EU_draw], by simp (maxSteps := 1000000) (disch := first | decide | omega | (simp only [go_sem]; first | done | omega)) only [go_sem, Int.reduceToNat, Nat.reduceMul, Nat.reduceAdd, Nat.reduceSub, ↓EU_region, ↓EU_draw, g1], by simp (maxSteps := 1000000) (disch := first | decide | omega | (simp only [go_sem]; first | done | omega)) only [go_sem, Int.reduceToNat, Nat.reduceMul, Nat.reduceAdd, Nat.reduceSub, ↓EU_region, ↓EU_draw, g5], by simp (maxSteps := 1000000) (disch := first | decide | omega | (simp only [go_sem]; first | done | omega)) only [go_sem, Int.reduceToNat, Nat.reduceMul, Nat.reduceAdd, Nat.reduceSub, ↓EU_region, ↓EU_draw, g6], by simp (maxSteps := 1000000) (disch := first | decide | omega | (simp only [go_sem]; first | done | omega)) only [go_sem, Int.reduceToNat, Nat.reduceMul, Nat.reduceAdd, Nat.reduceSub, ↓EU_region, ↓EU_draw, g7], by simp (maxSteps := 1000000) (disch := first | decide | omega | (simp only [go_sem]; first | done | omega)) only [go_sem, Int.reduceToNat, Nat.reduceMul, Nat.reduceAdd, Nat.reduceSub, ↓EU_region, ↓EU_draw, g8]⟩
      · have e1 : decide (((i % 8 : Nat) : Int) = 7) = false := decide_eq_false (by omega)
        have e2 : decide ((i : Int) = ((l.length - 1 : Nat) : Int)) = true := decide_eq_true (by omega)
        simp (maxSteps := 1000000) (disch := first | decide | omega | (simp only [go_sem]; first | done | omega)) only [go_sem, Int.reduceToNat, Nat.reduceMul, Nat.reduceAdd, Nat.reduceSub, ↓EU_region, ↓EU_draw, g1, g7, bin_rem0, erm, wl1, e1, e2]
        exact ⟨_, rfl, by simp (maxSteps := 1000000) (disch := first | decide | omega | (simp only [go_sem]; first | done | omega)) only [go_sem, Int.reduceToNat, Nat.reduceMul, Nat.reduceAdd, Nat.reduceSub, ↓EU_region, ↓EU_draw], by simp (maxSteps := 1000000) (disch := first | decide | omega | (simp only [go_sem]; first | done | omega)) only [go_sem, Int.reduceToNat, Nat.reduceMul, Nat.reduceAdd, Nat.reduceSub, ↓EU_region, ↓EU_draw, g1], by simp (maxSteps := 1000000) (disch := first | decide | omega | (simp only [go_sem]; first | done | omega)) only [go_sem, Int.reduceToNat, Nat.reduceMul, Nat.reduceAdd, Nat.reduceSub, ↓EU_region, ↓EU_draw, g5], by simp (maxSteps := 1000000) (disch := first | decide | omega | (simp only [go_sem]; first | done | omega)) only [go_sem, Int.reduceToNat, Nat.reduceMul, Nat.reduceAdd, Nat.reduceSub, ↓EU_region, ↓EU_draw, g6], by simp (maxSteps := 1000000) (disch := first | decide | omega | (simp only [go_sem]; first | done | omega)) only [go_sem, Int.reduceToNat, Nat.reduceMul, Nat.reduceAdd, Nat.reduceSub, ↓EU_region, ↓EU_draw, g7], by simp (maxSteps := 1000000) (disch := first | decide | omega | (simp only [go_sem]; first | done | omega)) only [go_sem, Int.reduceToNat, Nat.reduceMul, Nat.reduceAdd, Nat.reduceSub, ↓EU_region, ↓EU_draw, g8]⟩
    clear g1 g5 g6 g7 g8 g237
    rintro _ ⟨tm, rfl, g247, g1, g5, g6, g7, g8⟩
    have cb2 := p2.rr.cb
    have bl2 := p2.rr.bl
    have vq := p2.rr.ow.sl.veq
    have owW := p2.rr.ow
    obtain ⟨a2, c2, hv2⟩ := p2.rr.ow.val
    rw [hv2] at cb2 vq owW
    simp (maxSteps := 1000000) (disch := first | decide | omega | (simp only [go_sem]; first | done | omega)) only [go_sem, Int.reduceToNat, Nat.reduceMul, Nat.reduceAdd, Nat.reduceSub, ↓EU_region, ↓EU_draw, g247]
    repeat refine WPo_ob ?_
    refine (LP_rule (fun m st => ∃ (n : Nat) (tm : Fr), st = ⟨tm, h2, []⟩ ∧ m = W2.length - n ∧ n ≤ W2.length ∧ (∀ j y, j < n → W2[j]? = some y → y.key ≤ key) ∧ Fr.get tm 1 = .slice (some ⟨B, o, none⟩) l.length c ∧ Fr.get tm 5 = ptr bq 0 ∧ Fr.get tm 6 = ptr bw 0 ∧ Fr.get tm 7 = .int .i64 (i : Int) ∧ Fr.get tm 8 = ptr h'.next 0 ∧ Fr.get tm 23 = .int .i64 (n : Int))
      (fun q => ∃ (n : Nat) (tm : Fr), q.2 = ⟨tm, h2, []⟩ ∧ q.1 = .exit 5 ∧ n ≤ W2.length ∧ (∀ j y, j < n → W2[j]? = some y → y.key ≤ key) ∧ (∀ y, W2[n]? = some y → ¬ y.key ≤ key) ∧ Fr.get tm 1 = .slice (some ⟨B, o, none⟩) l.length c ∧ Fr.get tm 5 = ptr bq 0 ∧ Fr.get tm 6 = ptr bw 0 ∧ Fr.get tm 7 = .int .i64 (i : Int) ∧ Fr.get tm 8 = ptr h'.next 0 ∧ Fr.get tm 23 = .int .i64 (n : Int)) ?_ W2.length _ _ ?_ ?_).mono ?_
    · clear g1 g5 g6 g7 g8 g247
      rintro m _ ⟨n, tm, rfl, hm, hn, hall, g1, g5, g6, g7, g8, g23⟩
      by_cases hq : n < W2.length
      · have d : decide ((n : Int) < (W2.length : Int)) = true := decide_eq_true (by omega)
        obtain ⟨y, hy⟩ : ∃ y, W2[n]? = some y := ⟨_, List.getElem?_eq_getElem hq⟩
        obtain ⟨B7, o7, c7, e7, hB7, _, r7⟩ := owW.sl.at hy rfl
        cases e7
        have r70 := r7 0 _ rfl
        rw [add_z] at r70
        have hwn : wrapF .i64 ((n : Int) + 1) = ((n + 1 : Nat) : Int) := by rw [wrap64 (by omega)]; rfl
        by_cases hk : y.key ≤ key
        · have dk : decide (y.key ≤ key) = true := decide_eq_true hk
          simp (maxSteps := 1000000) (disch := first | decide | omega | (simp only [go_sem]; first | done | omega)) only [go_sem, Int.reduceToNat, Nat.reduceMul, Nat.reduceAdd, Nat.reduceSub, ↓EU_region, ↓EU_draw, g6, g8, g23, cb2, d, k2, r70, dk, hwn]
          refine ⟨_, by omega, n + 1, _, rfl, rfl, by omega, fun j z hj hz => ?_, by simp (maxSteps := 1000000) (disch := first | decide | omega | (simp only [go_sem]; first | done | omega)) only [go_sem, Int.reduceToNat, Nat.reduceMul, Nat.reduceAdd, Nat.reduceSub, ↓EU_region, ↓EU_draw, g1], by simp (maxSteps := 1000000) (disch := first | decide | omega | (simp only [go_sem]; first | done | omega)) only [go_sem, Int.reduceToNat, Nat.reduceMul, Nat.reduceAdd, Nat.reduceSub, ↓EU_region, ↓EU_draw, g5], by simp (maxSteps := 1000000) (disch := first | decide | omega | (simp only [go_sem]; first | done | omega)) only [go_sem, Int.reduceToNat, Nat.reduceMul, Nat.reduceAdd, Nat.reduceSub, ↓EU_region, ↓EU_draw, g6], by simp (maxSteps := 1000000) (disch := first | decide | omega | (simp only [go_sem]; first | done | omega)) only [go_sem, Int.reduceToNat, Nat.reduceMul, Nat.reduceAdd, Nat.reduceSub, ↓EU_region, ↓EU_draw, g7], by simp (maxSteps := 1000000) (disch := first | decide | omega | (simp only [go_sem]; first | done | omega)) only [go_sem, Int.reduceToNat, Nat.reduceMul, Nat.reduceAdd, Nat.reduceSub, ↓EU_region, ↓EU_draw, g8], by simp (maxSteps := 1000000) (disch := first | decide | omega | (simp only [go_sem]; first | done | omega)) only [go_sem, Int.reduceToNat, Nat.reduceMul, Nat.reduceAdd, Nat.reduceSub, ↓EU_region, ↓EU_draw]⟩
          by_cases e : j = n
          · subst e
            rw [hy] at hz
            cases hz
            exact hk
          · exact hall j z (by omega) hz
        · have dk : decide (y.key ≤ key) = false := decide_eq_false hk
          simp (maxSteps := 1000000) (disch := first | decide | omega | (simp only [go_sem]; first | done | omega)) only [go_sem, Int.reduceToNat, Nat.reduceMul, Nat.reduceAdd, Nat.reduceSub, ↓EU_region, ↓EU_draw, g6, g8, g23, cb2, d, k2, r70, dk]
          refine ⟨n, _, rfl, trivial, hn, hall, fun z hz => ?_, by simp (maxSteps := 1000000) (disch := first | decide | omega | (simp only [go_sem]; first | done | omega)) only [go_sem, Int.reduceToNat, Nat.reduceMul, Nat.reduceAdd, Nat.reduceSub, ↓EU_region, ↓EU_draw, g1], by simp (maxSteps := 1000000) (disch := first | decide | omega | (simp only [go_sem]; first | done | omega)) only [go_sem, Int.reduceToNat, Nat.reduceMul, Nat.reduceAdd, Nat.reduceSub, ↓EU_region, ↓EU_draw, g5], by simp (maxSteps := 1000000) (disch := first | decide | omega | (simp only [go_sem]; first | done | omega)) only [go_sem, Int.reduceToNat, Nat.reduceMul, Nat.reduceAdd, Nat.reduceSub, ↓EU_region, ↓EU_draw, g6], by simp (maxSteps := 1000000) (disch := first | decide | omega | (simp only [go_sem]; first | done | omega)) only [go_sem, Int.reduceToNat, Nat.reduceMul, Nat.reduceAdd, Nat.reduceSub, ↓EU_region, ↓EU_draw, g7], by simp (maxSteps := 1000000) (disch := first | decide | omega | (simp only [go_sem]; first | done | omega)) only [go_sem, Int.reduceToNat, Nat.reduceMul, Nat.reduceAdd, Nat.reduceSub, ↓EU_region, ↓EU_draw, g8], by simp (maxSteps := 1000000) (disch := first | decide | omega | (simp only [go_sem]; first | done | omega)) only [go_sem, Int.reduceToNat, Nat.reduceMul, Nat.reduceAdd, Nat.reduceSub, ↓EU_region, ↓EU_draw, g23]⟩
          rw [hy] at hz
          cases hz
          exact hk
      · have d : decide ((n : Int) < (W2.length : Int)) = false := decide_eq_false (by omega)
        simp (maxSteps := 1000000) (disch := first | decide | omega | (simp only [go_sem]; first | done | omega)) only [go_sem, Int.reduceToNat, Nat.reduceMul, Nat.reduceAdd, Nat.reduceSub, ↓EU_region, ↓EU_draw, g6, g8, g23, cb2, d]
        refine ⟨n, _, rfl, trivial, hn, hall, fun z hz => ?_, by simp (maxSteps := 1000000) (disch := first | decide | omega | (simp only [go_sem]; first | done | omega)) only [go_sem, Int.reduceToNat, Nat.reduceMul, Nat.reduceAdd, Nat.reduceSub, ↓EU_region, ↓EU_draw, g1], by simp (maxSteps := 1000000) (disch := first | decide | omega | (simp only [go_sem]; first | done | omega)) only [go_sem, Int.reduceToNat, Nat.reduceMul, Nat.reduceAdd, Nat.reduceSub, ↓EU_region, ↓EU_draw, g5], by simp (maxSteps := 1000000) (disch := first | decide | omega | (simp only [go_sem]; first | done | omega)) only [go_sem, Int.reduceToNat, Nat.reduceMul, Nat.reduceAdd, Nat.reduceSub, ↓EU_region, ↓EU_draw, g6], by simp (maxSteps := 1000000) (disch := first | decide | omega | (simp only [go_sem]; first | done | omega)) only [go_sem, Int.reduceToNat, Nat.reduceMul, Nat.reduceAdd, Nat.reduceSub, ↓EU_region, ↓EU_draw, g7], by simp (maxSteps := 1000000) (disch := first | decide | omega | (simp only [go_sem]; first | done | omega)) only [go_sem, Int.reduceToNat, Nat.reduceMul, Nat.reduceAdd, Nat.reduceSub, ↓EU_region, ↓EU_draw, g8], by simp (maxSteps := 1000000) (disch := first | decide | omega | (simp only [go_sem]; first | done | omega)) only [go_sem, Int.reduceToNat, Nat.reduceMul, Nat.reduceAdd, Nat.reduceSub, ↓EU_region, ↓EU_draw, g23]⟩
        rw [List.getElem?_eq_none (by omega)] at hz
        cases hz
    · exact ⟨0, _, rfl, rfl, by omega, fun j y hj => by omega, by simp (maxSteps := 1000000) (disch := first | decide | omega | (simp only [go_sem]; first | done | omega)) only [go_sem, Int.reduceToNat, Nat.reduceMul, Nat.reduceAdd, Nat.reduceSub, ↓EU_region, ↓EU_draw, g1], by simp (maxSteps := 1000000) (disch := first | decide | omega | (simp only [go_sem]; first | done | omega)) only [go_sem, Int.reduceToNat, Nat.reduceMul, Nat.reduceAdd, Nat.reduceSub, ↓EU_region, ↓EU_draw, g5], by simp (maxSteps := 1000000) (disch := first | decide | omega | (simp only [go_sem]; first | done | omega)) only [go_sem, Int.reduceToNat, Nat.reduceMul, Nat.reduceAdd, Nat.reduceSub, ↓EU_region, ↓EU_draw, g6], by simp (maxSteps := 1000000) (disch := first | decide | omega | (simp only [go_sem]; first | done | omega)) only [go_sem, Int.reduceToNat, Nat.reduceMul, Nat.reduceAdd, Nat.reduceSub, ↓EU_region, ↓EU_draw, g7], by simp (maxSteps := 1000000) (disch := first | decide | omega | (simp only [go_sem]; first | done | omega)) only [go_sem, Int.reduceToNat, Nat.reduceMul, Nat.reduceAdd, Nat.reduceSub, ↓EU_region, ↓EU_draw, g8], by simp (maxSteps := 1000000) (disch := first | decide | omega | (simp only [go_sem]; first | done | omega)) only [go_sem, Int.reduceToNat, Nat.reduceMul, Nat.reduceAdd, Nat.reduceSub, ↓EU_region, ↓EU_draw]; rfl⟩
    · omega
    clear g1 g5 g6 g7 g8 g247
    rintro ⟨_, _⟩ ⟨n, tm, rfl, rfl, hn, hall, hnx, g1, g5, g6, g7, g8, g23⟩
    simp (maxSteps := 1000000) (disch := first | decide | omega | (simp only [go_sem]; first | done | omega)) only [go_sem, Int.reduceToNat, Nat.reduceMul, Nat.reduceAdd, Nat.reduceSub]
    rw [EU_bad _ _ rfl, EC_tab (tab := [(false, none), (true, none), (false, none), (false, none), (false, none), (false, (some (0, 1))), (true, none), (false, none), (false, none), (false, none), (false, none), (false, none), (true, none), (false, none), (false, none), (false, none), (false, (some (2, 3))), (false, none), (false, (some (2, 3))), (true, none), (false, none), (false, none)]) (by kernel_rfl)]
    simp (maxSteps := 1000000) (disch := first | decide | omega | (simp only [go_sem]; first | done | omega)) only [go_sem, Int.reduceToNat, Nat.reduceMul, Nat.reduceAdd, Nat.reduceSub, ↓EU_region, ↓EU_draw, g5, g6]
    repeat refine WPo_ob ?_
    refine (qlist_ev p2.qr (by omega)).mono ?_
    rintro ⟨v5, h5⟩ ⟨o5, f5, x5⟩
    simp only at o5 f5 x5
    rw [p2.lk.srt] at o5
    have p5 := p2.ext x5
    have owW5 := owW.ext x5
    have cb5 := p5.rr.cb
    have bl5 := p5.rr.bl
    rw [hv2] at cb5
    have hs5 := same_ev _ W2 v5 _ h5 o5.sl owW5.sl (by rw [List.length_map]; omega) rfl
    have k5 := (x5.old _ n2).trans k2
    have n5 := x5.le
    simp (maxSteps := 1000000) (disch := first | decide | omega | (simp only [go_sem]; first | done | omega)) only [go_sem, Int.reduceToNat, Nat.reduceMul, Nat.reduceAdd, Nat.reduceSub, ↓EU_region, ↓EU_draw, g5, g6, g8, cb5, hs5, k5]
    repeat refine WPo_ob ?_
    refine (over_ev p5.qr key (by omega)).mono ?_
    rintro ⟨v6, h6⟩ ⟨o6, f6, x6⟩
    simp only at o6 f6 x6
    rw [p2.lk.above hn hall hnx] at o6
    have p6 := p5.ext x6
    have owW6 := owW5.ext x6
    have cb6 := p6.rr.cb
    have bl6 := p6.rr.bl
    rw [hv2] at cb6
    obtain ⟨w, hw5, sw, bw'⟩ := cut_from fc_sl_46 owW5.sl .i64 (n : Int) n rfl hn
    have hw := cut_extS owW5.sl x6 hw5
    have sw := sw.ext x6
    have hs6 := same_ev _ (W2.drop n) v6 w h6 o6.sl sw (by rw [List.length_map, List.length_drop]; omega) rfl
    have k6 := (x6.old _ (by omega)).trans k5
    have vw := sw.veq
    simp (maxSteps := 1000000) (disch := first | decide | omega | (simp only [go_sem]; first | done | omega)) only [go_sem, Int.reduceToNat, Nat.reduceMul, Nat.reduceAdd, Nat.reduceSub, ↓EU_region, ↓EU_draw, g5, g6, g7, g8, g23, cb6, hw, hs6, k6, cb2, cb5, vq, vw, k2, k5, hw5, hwi]
    exact ⟨l.length - (i + 1), hmm, i + 1, _, h6, _, _, _, _, _, rfl, rfl, hi1, by simp (maxSteps := 1000000) (disch := first | decide | omega | (simp only [go_sem]; first | done | omega)) only [go_sem, Int.reduceToNat, Nat.reduceMul, Nat.reduceAdd, Nat.reduceSub, ↓EU_region, ↓EU_draw, g1], by simp (maxSteps := 1000000) (disch := first | decide | omega | (simp only [go_sem]; first | done | omega)) only [go_sem, Int.reduceToNat, Nat.reduceMul, Nat.reduceAdd, Nat.reduceSub, ↓EU_region, ↓EU_draw, g5], by simp (maxSteps := 1000000) (disch := first | decide | omega | (simp only [go_sem]; first | done | omega)) only [go_sem, Int.reduceToNat, Nat.reduceMul, Nat.reduceAdd, Nat.reduceSub, ↓EU_region, ↓EU_draw, g6], by simp (maxSteps := 1000000) (disch := first | decide | omega | (simp only [go_sem]; first | done | omega)) only [go_sem, Int.reduceToNat, Nat.reduceMul, Nat.reduceAdd, Nat.reduceSub, ↓EU_region, ↓EU_draw], p6⟩
end Go.Proofs.Ytchclddjifhcaaa.EV
