/- DueqPlays, plainly. No condition. -/
import Derived.Test.YtbbdhpjkibbnkaaDq6
namespace Go.Proofs.Ytbbdhpjkibbnkaa.EV
open Go Go.Proofs
set_option linter.unusedVariables false
set_option linter.unusedSimpArgs false
set_option maxRecDepth 100000
set_option pp.deepTerms false
set_option pp.deepTerms.threshold 20
structure Act4 where
  op : Int
  id : Int
  key : Int
  due : Int
noncomputable def aE (x : Act4) : List Value := [.int .i64 x.op, .int .i64 x.id, .int .i64 x.key, .int .i64 x.due]
theorem aE_len (x : Act4) : (aE x).length = 4 := rfl
theorem aE_flatV (x : Act4) : (aE x).all flat1 = true := rfl
noncomputable def aWf (x : Act4) : Prop := (Lit.int .i64 x.op).wf = true ∧ (Lit.int .i64 x.id).wf = true ∧ (Lit.int .i64 x.key).wf = true ∧ (Lit.int .i64 x.due).wf = true
/-- a due queue and its row, kept alike -/
structure PT (h h' : Heap) (B b dm mb bw : Nat) (M : Int) (lv vw : Value) (st : Int) (L : List QI) (W : List RI) (du : Int → Int) (i : Nat) : Prop where
  dq : DQ h' B b dm lv mb M st L du
  rr : RR h' bw vw M W
  dj : ∀ j, DZ B b dm lv mb j → ¬ RS bw vw j
  nq : ∀ j, DZ B b dm lv mb j → h.next ≤ j
  nw : ∀ j, RS bw vw j → h.next ≤ j
  ld : LD W L du
  hp : HP L
  le : L.length ≤ i
  lm : (L.length : Int) ≤ M
  xx : Ext h h'
section
variable {h h' h2 : Heap} {B b dm mb bw : Nat} {M : Int} {lv vw : Value} {st : Int} {L : List QI} {W : List RI} {du : Int → Int} {i : Nat}
theorem PT.ext (p : PT h h' B b dm mb bw M lv vw st L W du i) (x : Ext h' h2) : PT h h2 B b dm mb bw M lv vw st L W du i :=
  ⟨p.dq.ext x, p.rr.ext x, p.dj, p.nq, p.nw, p.ld, p.hp, p.le, p.lm, p.xx.trans x⟩
theorem PT.up (p : PT h h' B b dm mb bw M lv vw st L W du i) : PT h h' B b dm mb bw M lv vw st L W du (i + 1) :=
  ⟨p.dq, p.rr, p.dj, p.nq, p.nw, p.ld, p.hp, by have := p.le; omega, p.lm, p.xx⟩
theorem PT.both (p : PT h h' B b dm mb bw M lv vw st L W du i) {h3 : Heap} {lv' vw' : Value} {st' : Int} {L' : List QI} {W' : List RI} {du' : Int → Int} (q' : DQ h2 B b dm lv' mb M st' L' du') (m1 : Mod (DZ B b dm lv mb) h' h2) (w1 : ∀ j, DZ B b dm lv' mb j → DZ B b dm lv mb j ∨ h'.next ≤ j) (r' : RR h3 bw vw' M W') (m2 : Mod (fun j => j = bw) h2 h3) (w2 : ∀ j, blkOf vw' j → h2.next ≤ j ∨ blkOf vw j)
    (ld : LD W' L' du') (hp : HP L → HP L') (hl : L'.length ≤ i + 1) (hlm : (L'.length : Int) ≤ M) : PT h h3 B b dm mb bw M lv' vw' st' L' W' du' (i + 1) := by
  have hh := p.xx.le
  have nbw : ¬ DZ B b dm lv' mb bw := fun e => by
    rcases w1 _ e with q | q
    · exact p.dj _ q (.inl rfl)
    · have := p.rr.bl; omega
  have hn : ∀ j, DZ B b dm lv' mb j → ¬ RS bw vw' j := fun j e1 e2 => by
    rcases e2 with e | e
    · exact nbw (by rw [← e]; exact e1)
    · rcases w2 j e with q | q
      · have := q'.blk e1; omega
      · rcases w1 j e1 with q1 | q1
        · exact p.dj j q1 (.inr q)
        · have := p.rr.blk (.inr q); omega
  have nq : ∀ j, DZ B b dm lv' mb j → h.next ≤ j := fun j e => by
    rcases w1 j e with q | q
    · exact p.nq j q
    · omega
  have hle1 := m1.le
  have nw : ∀ j, RS bw vw' j → h.next ≤ j := fun j e => by
    rcases e with e | e
    · exact p.nw j (.inl e)
    · rcases w2 j e with q | q
      · omega
      · exact p.nw j (.inr q)
  have m3 : Mod (fun j => DZ B b dm lv mb j ∨ RS bw vw j) h' h3 := (m1.mono fun j _ e => .inl e).trans (m2.mono fun j _ e => .inr (.inl e))
  have xx : Ext h h3 := ⟨Nat.le_trans hh m3.le, fun j hj => (m3.old j (by omega) (fun e => by
    rcases e with e | e
    · have := p.nq j e; omega
    · have := p.nw j e; omega)).trans (p.xx.old j hj)⟩
  exact ⟨q'.modO m2 (fun j e1 e2 => by subst e2; exact nbw e1), r', hn, nq, nw, ld, hp p.hp, hl, hlm, xx⟩
end
noncomputable def ltM (M : Int) : Int := if M < 1 then 1 else M
theorem clampM_eq (M : Int) : clampM M = if M > 4096 then 4096 else ltM M := by
  unfold clampM ltM
  by_cases h1 : M < 1
  · rw [if_pos h1, if_neg (by omega), if_pos h1]
  · rw [if_neg h1]
    by_cases h2 : M > 4096
    · rw [if_pos h2, if_pos h2]
    · rw [if_neg h2, if_neg h2, if_neg h1]
theorem set_perm {l : List QI} {n : Nat} {x y : QI} (hx : l[n]? = some x) : ∃ r, l.Perm (x :: r) ∧ (l.set n y).Perm (y :: r) := by
  obtain ⟨hn, rfl⟩ := List.getElem?_eq_some_iff.1 hx
  refine ⟨l.take n ++ l.drop (n + 1), ?_, ?_⟩
  · conv => lhs; rw [← List.take_append_drop n l, List.drop_eq_getElem_cons hn]
    exact List.perm_middle
  · rw [List.set_eq_take_append_cons_drop, if_pos hn]
    exact List.perm_middle
set_option maxHeartbeats 16000000 in
theorem law_DueqPlays (h : Heap) (most : Int) (wm : (Lit.int .i64 most).wf = true) (s : Value) (l : List Act4) (hs : SL aE 4 h s l) (wl : ∀ z ∈ l, aWf z) (s2 : Value) (ak : List Int) (hs2 : SL (intE .i64) 1 h s2 ak) (wl2 : ∀ z ∈ ak, (Lit.int .i64 z).wf = true) :
    WPo (EF Try.prog O0 6 [.int .i64 most, s, s2] h) fun q => q.1 = .bool true := by
  rw [EF_body (O := O0) (by kernel_rfl) Try.func6 rfl (rs := [.tmp 6]) rfl (bad := [24, 40, 45]) (by kernel_rfl) _ _ (m := 286) rfl]
  have dt : ∀ x : Int, decide (x = x) = true := fun x => decide_eq_true rfl
  have bs : ∀ x : Bool, (x != x) = false := fun x => by cases x <;> rfl
  obtain ⟨a, c, rfl⟩ := hs.val
  obtain ⟨a2, c2, rfl⟩ := hs2.val
  by_cases c0 : l.length > 200
  · have d0 : decide ((l.length : Int) > 200) = true := decide_eq_true (by omega)
    simp (maxSteps := 1000000) (disch := first | decide | omega | (simp only [go_sem]; first | done | omega)) only [go_sem, Int.reduceToNat, Nat.reduceMul, Nat.reduceAdd, Nat.reduceSub, ↓EU_region, ↓EU_draw, awake_ev, d0]
  have d0 : decide ((l.length : Int) > 200) = false := decide_eq_false (by omega)
  by_cases c1 : ak.length > 10
  · have d1 : decide ((ak.length : Int) > 10) = true := decide_eq_true (by omega)
    simp (maxSteps := 1000000) (disch := first | decide | omega | (simp only [go_sem]; first | done | omega)) only [go_sem, Int.reduceToNat, Nat.reduceMul, Nat.reduceAdd, Nat.reduceSub, ↓EU_region, ↓EU_draw, awake_ev, d0, d1]
  have d1 : decide ((ak.length : Int) > 10) = false := decide_eq_false (by omega)
  simp (maxSteps := 1000000) (disch := first | decide | omega | (simp only [go_sem]; first | done | omega)) only [go_sem, Int.reduceToNat, Nat.reduceMul, Nat.reduceAdd, Nat.reduceSub, ↓EU_region, ↓EU_draw, awake_ev, d0, d1]
  repeat refine WPo_ob ?_
  refine (dnew_ev most h).mono ?_
  rintro ⟨v1, h1⟩ ⟨B, b, dm, mb, rfl, qq, x1, nq⟩
  simp only at qq x1
  have x2 : Ext h1 (h1.push (.cells [.int .i64 most, .slice none 0 1] 0)) := (Ext.refl h1).push _
  have g2 : (h1.push (.cells [.int .i64 most, .slice none 0 1] 0)).get h1.next = .cells [.int .i64 most, .slice none 0 1] 0 := get_push_new _ _
  have n2 : (h1.push (.cells [.int .i64 most, .slice none 0 1] 0)).next = h1.next + 1 := next_push _ _
  simp (maxSteps := 1000000) (disch := first | decide | omega | (simp only [go_sem]; first | done | omega)) only [go_sem, Int.reduceToNat, Nat.reduceMul, Nat.reduceAdd, Nat.reduceSub, ↓EU_region, ↓EU_draw]
  generalize h1.push (.cells [.int .i64 most, .slice none 0 1] 0) = h2 at *
  repeat refine WPo_ob ?_
  refine WPo.mono (Q := fun q => ∃ tm h3, q = (.normal, ⟨tm, h3, []⟩) ∧ Fr.get tm 0 = .int .i64 most ∧ Fr.get tm 1 = .slice a l.length c ∧ Fr.get tm 2 = .slice a2 ak.length c2 ∧ Fr.get tm 7 = ptr B 0 ∧ Fr.get tm 8 = ptr h1.next 0 ∧ h3.get h1.next = .cells [.int .i64 (ltM most), .slice none 0 1] 0 ∧ h1.next < h3.next ∧ Ext h1 h3) ?_ ?_
  · by_cases q : most < 1
    · have d : decide (most < 1) = true := decide_eq_true q
      simp (maxSteps := 1000000) (disch := first | decide | omega | (simp only [go_sem]; first | done | omega)) only [go_sem, Int.reduceToNat, Nat.reduceMul, Nat.reduceAdd, Nat.reduceSub, ↓EU_region, ↓EU_draw, d, g2]
      refine ⟨_, _, rfl, by simp (maxSteps := 1000000) (disch := first | decide | omega | (simp only [go_sem]; first | done | omega)) only [go_sem, Int.reduceToNat, Nat.reduceMul, Nat.reduceAdd, Nat.reduceSub, ↓EU_region, ↓EU_draw], by simp (maxSteps := 1000000) (disch := first | decide | omega | (simp only [go_sem]; first | done | omega)) only [go_sem, Int.reduceToNat, Nat.reduceMul, Nat.reduceAdd, Nat.reduceSub, ↓EU_region, ↓EU_draw], by simp (maxSteps := 1000000) (disch := first | decide | omega | (simp only [go_sem]; first | done | omega)) only [go_sem, Int.reduceToNat, Nat.reduceMul, Nat.reduceAdd, Nat.reduceSub, ↓EU_region, ↓EU_draw], by simp (maxSteps := 1000000) (disch := first | decide | omega | (simp only [go_sem]; first | done | omega)) only [go_sem, Int.reduceToNat, Nat.reduceMul, Nat.reduceAdd, Nat.reduceSub, ↓EU_region, ↓EU_draw], by simp (maxSteps := 1000000) (disch := first | decide | omega | (simp only [go_sem]; first | done | omega)) only [go_sem, Int.reduceToNat, Nat.reduceMul, Nat.reduceAdd, Nat.reduceSub, ↓EU_region, ↓EU_draw], ?_, ?_, x2.set _ _ (Nat.le_refl _)⟩
      · unfold ltM; rw [if_pos q]; exact get_set_same _ _ _
      · rw [next_set]; omega
    · have d : decide (most < 1) = false := decide_eq_false q
      simp (maxSteps := 1000000) (disch := first | decide | omega | (simp only [go_sem]; first | done | omega)) only [go_sem, Int.reduceToNat, Nat.reduceMul, Nat.reduceAdd, Nat.reduceSub, ↓EU_region, ↓EU_draw, d]
      refine ⟨_, _, rfl, by simp (maxSteps := 1000000) (disch := first | decide | omega | (simp only [go_sem]; first | done | omega)) only [go_sem, Int.reduceToNat, Nat.reduceMul, Nat.reduceAdd, Nat.reduceSub, ↓EU_region, ↓EU_draw], by simp (maxSteps := 1000000) (disch := first | decide | omega | (simp only [go_sem]; first | done | omega)) only [go_sem, Int.reduceToNat, Nat.reduceMul, Nat.reduceAdd, Nat.reduceSub, ↓EU_region, ↓EU_draw], by simp (maxSteps := 1000000) (disch := first | decide | omega | (simp only [go_sem]; first | done | omega)) only [go_sem, Int.reduceToNat, Nat.reduceMul, Nat.reduceAdd, Nat.reduceSub, ↓EU_region, ↓EU_draw], by simp (maxSteps := 1000000) (disch := first | decide | omega | (simp only [go_sem]; first | done | omega)) only [go_sem, Int.reduceToNat, Nat.reduceMul, Nat.reduceAdd, Nat.reduceSub, ↓EU_region, ↓EU_draw], by simp (maxSteps := 1000000) (disch := first | decide | omega | (simp only [go_sem]; first | done | omega)) only [go_sem, Int.reduceToNat, Nat.reduceMul, Nat.reduceAdd, Nat.reduceSub, ↓EU_region, ↓EU_draw], ?_, ?_, x2⟩
      · unfold ltM; rw [if_neg q]; exact g2
      · omega
  clear g2
  rintro _ ⟨tm, h3, rfl, g0, g1, g2, g7, g8, k3, n3, x3⟩
  have ec := clampM_eq most
  simp (maxSteps := 1000000) (disch := first | decide | omega | (simp only [go_sem]; first | done | omega)) only [go_sem, Int.reduceToNat, Nat.reduceMul, Nat.reduceAdd, Nat.reduceSub, ↓EU_region, ↓EU_draw, g0]
  repeat refine WPo_ob ?_
  refine WPo.mono (Q := fun q => ∃ tm h4, q = (.normal, ⟨tm, h4, []⟩) ∧ Fr.get tm 1 = .slice a l.length c ∧ Fr.get tm 2 = .slice a2 ak.length c2 ∧ Fr.get tm 7 = ptr B 0 ∧ Fr.get tm 8 = ptr h1.next 0 ∧ h4.get h1.next = .cells [.int .i64 (clampM most), .slice none 0 1] 0 ∧ h1.next < h4.next ∧ Ext h1 h4) ?_ ?_
  · by_cases q : most > 4096
    · have d : decide (most > 4096) = true := decide_eq_true q
      simp (maxSteps := 1000000) (disch := first | decide | omega | (simp only [go_sem]; first | done | omega)) only [go_sem, Int.reduceToNat, Nat.reduceMul, Nat.reduceAdd, Nat.reduceSub, ↓EU_region, ↓EU_draw, d, g0, g1, g2, g7, g8, k3]
      refine ⟨_, _, rfl, by simp (maxSteps := 1000000) (disch := first | decide | omega | (simp only [go_sem]; first | done | omega)) only [go_sem, Int.reduceToNat, Nat.reduceMul, Nat.reduceAdd, Nat.reduceSub, ↓EU_region, ↓EU_draw, g1], by simp (maxSteps := 1000000) (disch := first | decide | omega | (simp only [go_sem]; first | done | omega)) only [go_sem, Int.reduceToNat, Nat.reduceMul, Nat.reduceAdd, Nat.reduceSub, ↓EU_region, ↓EU_draw, g2], by simp (maxSteps := 1000000) (disch := first | decide | omega | (simp only [go_sem]; first | done | omega)) only [go_sem, Int.reduceToNat, Nat.reduceMul, Nat.reduceAdd, Nat.reduceSub, ↓EU_region, ↓EU_draw, g7], by simp (maxSteps := 1000000) (disch := first | decide | omega | (simp only [go_sem]; first | done | omega)) only [go_sem, Int.reduceToNat, Nat.reduceMul, Nat.reduceAdd, Nat.reduceSub, ↓EU_region, ↓EU_draw, g8], ?_, ?_, x3.set _ _ (Nat.le_refl _)⟩
      · rw [ec, if_pos q]; exact get_set_same _ _ _
      · rw [next_set]; omega
    · have d : decide (most > 4096) = false := decide_eq_false q
      simp (maxSteps := 1000000) (disch := first | decide | omega | (simp only [go_sem]; first | done | omega)) only [go_sem, Int.reduceToNat, Nat.reduceMul, Nat.reduceAdd, Nat.reduceSub, ↓EU_region, ↓EU_draw, d, g0, g1, g2, g7, g8]
      refine ⟨_, _, rfl, by simp (maxSteps := 1000000) (disch := first | decide | omega | (simp only [go_sem]; first | done | omega)) only [go_sem, Int.reduceToNat, Nat.reduceMul, Nat.reduceAdd, Nat.reduceSub, ↓EU_region, ↓EU_draw, g1], by simp (maxSteps := 1000000) (disch := first | decide | omega | (simp only [go_sem]; first | done | omega)) only [go_sem, Int.reduceToNat, Nat.reduceMul, Nat.reduceAdd, Nat.reduceSub, ↓EU_region, ↓EU_draw, g2], by simp (maxSteps := 1000000) (disch := first | decide | omega | (simp only [go_sem]; first | done | omega)) only [go_sem, Int.reduceToNat, Nat.reduceMul, Nat.reduceAdd, Nat.reduceSub, ↓EU_region, ↓EU_draw, g7], by simp (maxSteps := 1000000) (disch := first | decide | omega | (simp only [go_sem]; first | done | omega)) only [go_sem, Int.reduceToNat, Nat.reduceMul, Nat.reduceAdd, Nat.reduceSub, ↓EU_region, ↓EU_draw, g8], ?_, ?_, x3⟩
      · rw [ec, if_neg q]; exact k3
      · omega
  clear g0 g1 g2 g7 g8
  rintro _ ⟨tm, h4, rfl, g1, g2, g7, g8, k4, n4, x4⟩
  have hM1 : 1 ≤ clampM most := by unfold clampM; split <;> (try split) <;> omega
  generalize clampM most = M at *
  have p0 : PT h h4 B b dm mb h1.next M (.slice none 0 1) (.slice none 0 1) 0 [] [] (fun _ => 0) 0 :=
    ⟨qq.ext x4, ⟨n4, k4, OW.nil, fun e => e⟩, fun j e1 e2 => by
      rcases e2 with e | e
      · have := qq.blk e1; omega
      · exact e.elim, nq, fun j e => by
      rcases e with f | f
      · have := x1.le; omega
      · exact f.elim, LD.nil _, HP.nil, Nat.le_refl _, by simp only [List.length_nil]; omega, x1.trans x4⟩
  simp (maxSteps := 1000000) (disch := first | decide | omega | (simp only [go_sem]; first | done | omega)) only [go_sem, Int.reduceToNat, Nat.reduceMul, Nat.reduceAdd, Nat.reduceSub, ↓EU_region, ↓EU_draw, g1, g2, g7, g8]
  repeat refine WPo_ob ?_
  refine (LP_rule (fun m st => ∃ (i : Nat) (tm : Fr) (h' : Heap) (lv vw : Value) (sq : Int) (L : List QI) (W : List RI) (du : Int → Int), st = ⟨tm, h', []⟩ ∧ m = l.length - i ∧ i ≤ l.length ∧ Fr.get tm 1 = .slice a l.length c ∧ Fr.get tm 2 = .slice a2 ak.length c2 ∧ Fr.get tm 7 = ptr B 0 ∧ Fr.get tm 8 = ptr h1.next 0 ∧ Fr.get tm 9 = .int .i64 (i : Int) ∧ PT h h' B b dm mb h1.next M lv vw sq L W du i)
    (fun q => ∃ (tm : Fr) (h' : Heap) (lv vw : Value) (sq : Int) (L : List QI) (W : List RI) (du : Int → Int), q.2 = ⟨tm, h', []⟩ ∧ q.1 = .exit 0 ∧ Fr.get tm 7 = ptr B 0 ∧ Fr.get tm 8 = ptr h1.next 0 ∧ PT h h' B b dm mb h1.next M lv vw sq L W du l.length) ?_ l.length _ _ ?_ ?_).mono ?_
  rotate_left
  · exact ⟨0, _, h4, _, _, _, _, _, _, rfl, rfl, by omega, by simp (maxSteps := 1000000) (disch := first | decide | omega | (simp only [go_sem]; first | done | omega)) only [go_sem, Int.reduceToNat, Nat.reduceMul, Nat.reduceAdd, Nat.reduceSub, ↓EU_region, ↓EU_draw, g1], by simp (maxSteps := 1000000) (disch := first | decide | omega | (simp only [go_sem]; first | done | omega)) only [go_sem, Int.reduceToNat, Nat.reduceMul, Nat.reduceAdd, Nat.reduceSub, ↓EU_region, ↓EU_draw, g2], by simp (maxSteps := 1000000) (disch := first | decide | omega | (simp only [go_sem]; first | done | omega)) only [go_sem, Int.reduceToNat, Nat.reduceMul, Nat.reduceAdd, Nat.reduceSub, ↓EU_region, ↓EU_draw, g7], by simp (maxSteps := 1000000) (disch := first | decide | omega | (simp only [go_sem]; first | done | omega)) only [go_sem, Int.reduceToNat, Nat.reduceMul, Nat.reduceAdd, Nat.reduceSub, ↓EU_region, ↓EU_draw, g8], by simp (maxSteps := 1000000) (disch := first | decide | omega | (simp only [go_sem]; first | done | omega)) only [go_sem, Int.reduceToNat, Nat.reduceMul, Nat.reduceAdd, Nat.reduceSub, ↓EU_region, ↓EU_draw]; rfl, p0⟩
  · omega
  · clear g1 g2 g7 g8 p0
    rintro ⟨_, _⟩ ⟨tm, h', lv, vw, sq, L, W, du, rfl, rfl, g7, g8, p⟩
    have cb := p.rr.cb
    have blw := p.rr.bl
    have vq := p.rr.ow.sl.veq
    have hL := p.le
    obtain ⟨aw, cw, hvw⟩ := p.rr.ow.val
    rw [hvw] at cb vq
    simp (maxSteps := 1000000) (disch := first | decide | omega | (simp only [go_sem]; first | done | omega)) only [go_sem, Int.reduceToNat, Nat.reduceMul, Nat.reduceAdd, Nat.reduceSub, g7, g8]
    rw [EU_bad _ _ rfl, EC_tab (tab := [(false, none), (true, none), (false, none), (false, none), (false, none), (false, (some (0, 1))), (true, none), (false, none)]) (by kernel_rfl)]
    simp (maxSteps := 1000000) (disch := first | decide | omega | (simp only [go_sem]; first | done | omega)) only [go_sem, Int.reduceToNat, Nat.reduceMul, Nat.reduceAdd, Nat.reduceSub, ↓EU_region, ↓EU_draw, g7, g8]
    repeat refine WPo_ob ?_
    refine (dlist_ev p.dq (by omega)).mono ?_
    rintro ⟨v5, h5⟩ ⟨o5, f5, x5⟩
    simp only at o5 f5 x5
    rw [p.ld.whole] at o5
    have p5 := p.ext x5
    have cb5 := p5.rr.cb
    have blw5 := p5.rr.bl
    have ow5 := p5.rr.ow
    rw [hvw] at cb5 ow5
    have hs5 := same5_ev W v5 _ h5 o5.sl ow5.sl (by have := p.ld.lk.len; omega)
    simp (maxSteps := 1000000) (disch := first | decide | omega | (simp only [go_sem]; first | done | omega)) only [go_sem, Int.reduceToNat, Nat.reduceMul, Nat.reduceAdd, Nat.reduceSub, ↓EU_region, ↓EU_draw, g8, cb5, hs5, cb, vq]
  clear p0 g1 g2 g7 g8 k4
  generalize h1.next = bw at *
  rintro m _ ⟨i, tm, h', lv, vw, sq, L, W, du, rfl, hm, hi, g1, g2, g7, g8, g9, p⟩
  by_cases q : i < l.length
  rotate_left
  · have d : decide ((i : Int) < (l.length : Int)) = false := decide_eq_false (by omega)
    obtain rfl : i = l.length := by omega
    simp (maxSteps := 1000000) (disch := first | decide | omega | (simp only [go_sem]; first | done | omega)) only [go_sem, Int.reduceToNat, Nat.reduceMul, Nat.reduceAdd, Nat.reduceSub, ↓EU_region, ↓EU_draw, g1, g9, d]
    exact ⟨_, h', lv, vw, sq, L, W, du, rfl, trivial, by simp (maxSteps := 1000000) (disch := first | decide | omega | (simp only [go_sem]; first | done | omega)) only [go_sem, Int.reduceToNat, Nat.reduceMul, Nat.reduceAdd, Nat.reduceSub, ↓EU_region, ↓EU_draw, g7], by simp (maxSteps := 1000000) (disch := first | decide | omega | (simp only [go_sem]; first | done | omega)) only [go_sem, Int.reduceToNat, Nat.reduceMul, Nat.reduceAdd, Nat.reduceSub, ↓EU_region, ↓EU_draw, g8], p⟩
  have hmm : l.length - (i + 1) < m := by omega
  have hi1 : i + 1 ≤ l.length := q
  have d : decide ((i : Int) < (l.length : Int)) = true := decide_eq_true (by omega)
  obtain ⟨⟨op, id, key, due⟩, hx⟩ : ∃ x, l[i]? = some x := ⟨_, List.getElem?_eq_getElem q⟩
  have hwi : wrapF .i64 ((i : Int) + 1) = ((i + 1 : Nat) : Int) := by rw [wrap64 (by omega)]; rfl
  obtain ⟨B1, o, c', e, _, r1, _⟩ := (hs.ext p.xx).at hx rfl
  cases e
  have r1 : rdc (h'.get B1) (o + i * 4) 4 = some [.int .i64 op, .int .i64 id, .int .i64 key, .int .i64 due] := r1
  obtain ⟨hA, hhA⟩ : ∃ hA, hA = ((h'.push (.cells [.int .i64 op, .int .i64 id, .int .i64 key, .int .i64 due] 0)).push (.cells [.int .i64 0, .int .i64 0, .int .i64 0] 0)).set (h'.next + 1) (.cells [.int .i64 key, .int .i64 due, .int .i64 id] 0) := ⟨_, rfl⟩
  have xA : Ext h' hA := by rw [hhA]; exact (((Ext.refl h').push _).push _).set _ _ (by omega)
  have pA := p.ext xA
  have kA : hA.get h'.next = .cells [.int .i64 op, .int .i64 id, .int .i64 key, .int .i64 due] 0 := by rw [hhA]; simp (maxSteps := 1000000) (disch := first | decide | omega | (simp only [go_sem]; first | done | omega)) only [go_sem, Int.reduceToNat, Nat.reduceMul, Nat.reduceAdd, Nat.reduceSub, ↓EU_region, ↓EU_draw]
  have kX : hA.get (h'.next + 1) = .cells [.int .i64 key, .int .i64 due, .int .i64 id] 0 := by rw [hhA]; simp (maxSteps := 1000000) (disch := first | decide | omega | (simp only [go_sem]; first | done | omega)) only [go_sem, Int.reduceToNat, Nat.reduceMul, Nat.reduceAdd, Nat.reduceSub, ↓EU_region, ↓EU_draw]
  have nA : hA.next = h'.next + 2 := by rw [hhA]; simp (maxSteps := 1000000) (disch := first | decide | omega | (simp only [go_sem]; first | done | omega)) only [go_sem, Int.reduceToNat, Nat.reduceMul, Nat.reduceAdd, Nat.reduceSub, ↓EU_region, ↓EU_draw]
  have hL := p.le
  have hWl := p.ld.lk.len
  have nq' : ∀ j, DZ B b dm lv mb j → j < h'.next := fun j e => p.dq.blk e
  have nw' : ∀ j, RS bw vw j → j < h'.next := fun j e => p.rr.blk e
  simp (maxSteps := 1000000) (disch := first | decide | omega | (simp only [go_sem]; first | done | omega)) only [go_sem, Int.reduceToNat, Nat.reduceMul, Nat.reduceAdd, Nat.reduceSub, ↓EU_region, ↓EU_draw, g1, g2, g7, g8, g9, d, r1]
  rw [← hhA]
  clear hhA
  repeat refine WPo_ob ?_
  refine WPo.mono (Q := fun q => ∃ tm h2 lv2 vw2 sq2 L2 W2 du2, q = (.normal, ⟨tm, h2, []⟩) ∧ Fr.get tm 1 = .slice (some ⟨B1, o, none⟩) l.length c ∧ Fr.get tm 2 = .slice a2 ak.length c2 ∧ Fr.get tm 7 = ptr B 0 ∧ Fr.get tm 8 = ptr bw 0 ∧ Fr.get tm 9 = .int .i64 (i : Int) ∧ Fr.get tm 10 = ptr h'.next 0 ∧ PT h h2 B b dm mb bw M lv2 vw2 sq2 L2 W2 du2 (i + 1) ∧ h2.get h'.next = .cells [.int .i64 op, .int .i64 id, .int .i64 key, .int .i64 due] 0 ∧ h'.next < h2.next) ?_ ?_
  · by_cases o0 : op = 0
    · have d0 : decide (op = 0) = true := decide_eq_true o0
      simp (maxSteps := 1000000) (disch := first | decide | omega | (simp only [go_sem]; first | done | omega)) only [go_sem, Int.reduceToNat, Nat.reduceMul, Nat.reduceAdd, Nat.reduceSub, ↓EU_region, ↓EU_draw, d0]
      have vf : veqL [Value.int .i64 key, .int .i64 due, .int .i64 id] [Value.int .i64 key, .int .i64 due, .int .i64 id] = true := veqL_flat [Value.int .i64 key, .int .i64 due, .int .i64 id] rfl
      rw [EU_bad _ _ rfl, EC_tab (tab := [(false, none), (false, none), (false, none), (false, none), (false, none), (false, none), (false, none), (true, none), (false, none), (false, (some (0, 1))), (true, none), (false, none)]) (by kernel_rfl)]
      simp (maxSteps := 1000000) (disch := first | decide | omega | (simp only [go_sem]; first | done | omega)) only [go_sem, Int.reduceToNat, Nat.reduceMul, Nat.reduceAdd, Nat.reduceSub, ↓EU_region, ↓EU_draw, g7, kA]
      repeat refine WPo_ob ?_
      refine (dput_ev pA.dq key due id (by omega)).mono ?_
      rintro ⟨v3, h3⟩ (⟨rfl, e, n, x, hx, hxid⟩ | ⟨hno, ⟨rfl, e, hfull⟩ | ⟨rfl, hnf, lv', L', sq', q', m', w', pp, hp'⟩⟩)
      · simp only at e
        have e := e.symm
        subst e
        simp (maxSteps := 1000000) (disch := first | decide | omega | (simp only [go_sem]; first | done | omega)) only [go_sem, Int.reduceToNat, Nat.reduceMul, Nat.reduceAdd, Nat.reduceSub, ↓EU_region, ↓EU_draw, g8, kA, kX]
        repeat refine WPo_ob ?_
        refine (rput_ev pA.rr ⟨key, due, id⟩ (by omega)).mono ?_
        rintro ⟨v4, h4⟩ (⟨rfl, x4, _⟩ | ⟨hno, _⟩)
        · simp only at x4
          have k4 := (x4.old _ (by omega : h'.next < hA.next)).trans kA
          have n4 := x4.le
          have k4X := (x4.old _ (by omega : h'.next + 1 < hA.next)).trans kX
          simp (maxSteps := 1000000) (disch := first | decide | omega | (simp only [go_sem]; first | done | omega)) only [go_sem, Int.reduceToNat, Nat.reduceMul, Nat.reduceAdd, Nat.reduceSub, ↓EU_region, ↓EU_draw, g7, g8, kA, k4, kX, k4X, dt, vf]
          exact ⟨_, h4, _, _, _, _, _, _, rfl, by simp (maxSteps := 1000000) (disch := first | decide | omega | (simp only [go_sem]; first | done | omega)) only [go_sem, Int.reduceToNat, Nat.reduceMul, Nat.reduceAdd, Nat.reduceSub, ↓EU_region, ↓EU_draw, g1], by simp (maxSteps := 1000000) (disch := first | decide | omega | (simp only [go_sem]; first | done | omega)) only [go_sem, Int.reduceToNat, Nat.reduceMul, Nat.reduceAdd, Nat.reduceSub, ↓EU_region, ↓EU_draw, g2], by simp (maxSteps := 1000000) (disch := first | decide | omega | (simp only [go_sem]; first | done | omega)) only [go_sem, Int.reduceToNat, Nat.reduceMul, Nat.reduceAdd, Nat.reduceSub, ↓EU_region, ↓EU_draw, g7], by simp (maxSteps := 1000000) (disch := first | decide | omega | (simp only [go_sem]; first | done | omega)) only [go_sem, Int.reduceToNat, Nat.reduceMul, Nat.reduceAdd, Nat.reduceSub, ↓EU_region, ↓EU_draw, g8], by simp (maxSteps := 1000000) (disch := first | decide | omega | (simp only [go_sem]; first | done | omega)) only [go_sem, Int.reduceToNat, Nat.reduceMul, Nat.reduceAdd, Nat.reduceSub, ↓EU_region, ↓EU_draw, g9], by simp (maxSteps := 1000000) (disch := first | decide | omega | (simp only [go_sem]; first | done | omega)) only [go_sem, Int.reduceToNat, Nat.reduceMul, Nat.reduceAdd, Nat.reduceSub, ↓EU_region, ↓EU_draw], (pA.ext x4).up, k4, by omega⟩
        · exact absurd hxid (p.ld.lk.mem' hno n x hx)
      · simp only at e
        have e := e.symm
        subst e
        simp (maxSteps := 1000000) (disch := first | decide | omega | (simp only [go_sem]; first | done | omega)) only [go_sem, Int.reduceToNat, Nat.reduceMul, Nat.reduceAdd, Nat.reduceSub, ↓EU_region, ↓EU_draw, g8, kA, kX]
        repeat refine WPo_ob ?_
        refine (rput_ev pA.rr ⟨key, due, id⟩ (by omega)).mono ?_
        rintro ⟨v4, h4⟩ (⟨_, _, n, y, hy, hyid⟩ | ⟨_, ⟨rfl, x4, _⟩ | ⟨_, hlt, _⟩⟩)
        · exact absurd hyid (p.ld.lk.mem hno n y hy)
        · simp only at x4
          have k4 := (x4.old _ (by omega : h'.next < hA.next)).trans kA
          have n4 := x4.le
          have k4X := (x4.old _ (by omega : h'.next + 1 < hA.next)).trans kX
          simp (maxSteps := 1000000) (disch := first | decide | omega | (simp only [go_sem]; first | done | omega)) only [go_sem, Int.reduceToNat, Nat.reduceMul, Nat.reduceAdd, Nat.reduceSub, ↓EU_region, ↓EU_draw, g7, g8, kA, k4, kX, k4X, dt, vf]
          exact ⟨_, h4, _, _, _, _, _, _, rfl, by simp (maxSteps := 1000000) (disch := first | decide | omega | (simp only [go_sem]; first | done | omega)) only [go_sem, Int.reduceToNat, Nat.reduceMul, Nat.reduceAdd, Nat.reduceSub, ↓EU_region, ↓EU_draw, g1], by simp (maxSteps := 1000000) (disch := first | decide | omega | (simp only [go_sem]; first | done | omega)) only [go_sem, Int.reduceToNat, Nat.reduceMul, Nat.reduceAdd, Nat.reduceSub, ↓EU_region, ↓EU_draw, g2], by simp (maxSteps := 1000000) (disch := first | decide | omega | (simp only [go_sem]; first | done | omega)) only [go_sem, Int.reduceToNat, Nat.reduceMul, Nat.reduceAdd, Nat.reduceSub, ↓EU_region, ↓EU_draw, g7], by simp (maxSteps := 1000000) (disch := first | decide | omega | (simp only [go_sem]; first | done | omega)) only [go_sem, Int.reduceToNat, Nat.reduceMul, Nat.reduceAdd, Nat.reduceSub, ↓EU_region, ↓EU_draw, g8], by simp (maxSteps := 1000000) (disch := first | decide | omega | (simp only [go_sem]; first | done | omega)) only [go_sem, Int.reduceToNat, Nat.reduceMul, Nat.reduceAdd, Nat.reduceSub, ↓EU_region, ↓EU_draw, g9], by simp (maxSteps := 1000000) (disch := first | decide | omega | (simp only [go_sem]; first | done | omega)) only [go_sem, Int.reduceToNat, Nat.reduceMul, Nat.reduceAdd, Nat.reduceSub, ↓EU_region, ↓EU_draw], (pA.ext x4).up, k4, by omega⟩
        · rw [hWl] at hlt; omega
      · simp only at q' m'
        have k3 := (m'.old _ (by omega : h'.next < hA.next) (fun e => Nat.lt_irrefl _ (nq' _ e))).trans kA
        have k3X := (m'.old _ (by omega : h'.next + 1 < hA.next) (fun e => by have := nq' _ e; omega)).trans kX
        have rr3 := pA.rr.modO m' (fun j e1 e2 => p.dj j e2 e1)
        have n3 := m'.le
        simp (maxSteps := 1000000) (disch := first | decide | omega | (simp only [go_sem]; first | done | omega)) only [go_sem, Int.reduceToNat, Nat.reduceMul, Nat.reduceAdd, Nat.reduceSub, ↓EU_region, ↓EU_draw, g8, k3, k3X]
        repeat refine WPo_ob ?_
        refine (rput_ev rr3 ⟨key, due, id⟩ (by omega)).mono ?_
        rintro ⟨v4, h4⟩ (⟨_, _, n, y, hy, hyid⟩ | ⟨hno2, ⟨_, _, hge⟩ | ⟨rfl, hlt, vw', k, r4, m4, f4, hk, hk1, hk2⟩⟩)
        · exact absurd hyid (p.ld.lk.mem hno n y hy)
        · rw [hWl] at hge; have := p.lm; omega
        · simp only at r4 m4 f4
          have k4 := (m4.old h'.next (by omega) (fun e => by have := nw' bw (.inl rfl); omega)).trans k3
          have k4X := (m4.old (h'.next + 1) (by omega) (fun e => by have := nw' bw (.inl rfl); omega)).trans k3X
          have n4 := m4.le
          have hll := pp.length_eq
          rw [List.length_cons] at hll
          have p4 := pA.both q' m' w' r4 m4 (fun j e => .inl (f4 j e)) (p.ld.ins hk hk1 hk2 pp hno2) hp' (by omega) (by have := p.lm; omega)
          simp (maxSteps := 1000000) (disch := first | decide | omega | (simp only [go_sem]; first | done | omega)) only [go_sem, Int.reduceToNat, Nat.reduceMul, Nat.reduceAdd, Nat.reduceSub, ↓EU_region, ↓EU_draw, g7, g8, kA, k3, k4, kX, k3X, k4X, dt, vf]
          exact ⟨_, h4, _, _, _, _, _, _, rfl, by simp (maxSteps := 1000000) (disch := first | decide | omega | (simp only [go_sem]; first | done | omega)) only [go_sem, Int.reduceToNat, Nat.reduceMul, Nat.reduceAdd, Nat.reduceSub, ↓EU_region, ↓EU_draw, g1], by simp (maxSteps := 1000000) (disch := first | decide | omega | (simp only [go_sem]; first | done | omega)) only [go_sem, Int.reduceToNat, Nat.reduceMul, Nat.reduceAdd, Nat.reduceSub, ↓EU_region, ↓EU_draw, g2], by simp (maxSteps := 1000000) (disch := first | decide | omega | (simp only [go_sem]; first | done | omega)) only [go_sem, Int.reduceToNat, Nat.reduceMul, Nat.reduceAdd, Nat.reduceSub, ↓EU_region, ↓EU_draw, g7], by simp (maxSteps := 1000000) (disch := first | decide | omega | (simp only [go_sem]; first | done | omega)) only [go_sem, Int.reduceToNat, Nat.reduceMul, Nat.reduceAdd, Nat.reduceSub, ↓EU_region, ↓EU_draw, g8], by simp (maxSteps := 1000000) (disch := first | decide | omega | (simp only [go_sem]; first | done | omega)) only [go_sem, Int.reduceToNat, Nat.reduceMul, Nat.reduceAdd, Nat.reduceSub, ↓EU_region, ↓EU_draw, g9], by simp (maxSteps := 1000000) (disch := first | decide | omega | (simp only [go_sem]; first | done | omega)) only [go_sem, Int.reduceToNat, Nat.reduceMul, Nat.reduceAdd, Nat.reduceSub, ↓EU_region, ↓EU_draw], p4, k4, by omega⟩
    have d0 : decide (op = 0) = false := decide_eq_false o0
    by_cases o1 : op = 1
    · have d1 : decide (op = 1) = true := decide_eq_true o1
      simp (maxSteps := 1000000) (disch := first | decide | omega | (simp only [go_sem]; first | done | omega)) only [go_sem, Int.reduceToNat, Nat.reduceMul, Nat.reduceAdd, Nat.reduceSub, ↓EU_region, ↓EU_draw, d0, d1, g7, kA]
      repeat refine WPo_ob ?_
      refine (ddrop_ev pA.dq id (by omega)).mono ?_
      rintro ⟨v3, h3⟩ (⟨rfl, x3, hno⟩ | ⟨n, x, hx, hxid, rfl, lv', L', sq', q', m', w', pp, hp'⟩)
      · simp only at x3
        have hle3 := x3.le
        have k3o := (x3.old _ (by omega : h'.next < hA.next)).trans kA
        have x3 := x3.push (.cells [.int .i64 0, .int .i64 0, .int .i64 0] 0)
        have k3 := (x3.old _ (by omega : h'.next < hA.next)).trans kA
        have c3 : (h3.push (.cells [.int .i64 0, .int .i64 0, .int .i64 0] 0)).get h3.next = .cells [.int .i64 0, .int .i64 0, .int .i64 0] 0 := get_push_new _ _
        have n3 : (h3.push (.cells [.int .i64 0, .int .i64 0, .int .i64 0] 0)).next = h3.next + 1 := next_push _ _
        simp (maxSteps := 1000000) (disch := first | decide | omega | (simp only [go_sem]; first | done | omega)) only [go_sem, Int.reduceToNat, Nat.reduceMul, Nat.reduceAdd, Nat.reduceSub, ↓EU_region, ↓EU_draw, g8, k3o]
        generalize h3.push (.cells [.int .i64 0, .int .i64 0, .int .i64 0] 0) = h3b at *
        repeat refine WPo_ob ?_
        refine (rdrop_ev (pA.rr.ext x3) id (by omega)).mono ?_
        rintro ⟨v4, h4⟩ (⟨rfl, x4, _⟩ | ⟨k, y, hy, hyid, _⟩)
        · simp only at x4
          have x4 := x4.push (.cells [.int .i64 0, .int .i64 0, .int .i64 0] 0)
          have k4 := (x4.old _ (by omega)).trans k3
          have c34 := (x4.old _ (by omega)).trans c3
          have c4 : (h4.push (.cells [.int .i64 0, .int .i64 0, .int .i64 0] 0)).get h4.next = .cells [.int .i64 0, .int .i64 0, .int .i64 0] 0 := get_push_new _ _
          have n4 : (h4.push (.cells [.int .i64 0, .int .i64 0, .int .i64 0] 0)).next = h4.next + 1 := next_push _ _
          have x34 := x3.trans x4
          have hle4 := x34.le
          simp (maxSteps := 1000000) (disch := first | decide | omega | (simp only [go_sem]; first | done | omega)) only [go_sem, Int.reduceToNat, Nat.reduceMul, Nat.reduceAdd, Nat.reduceSub]
          generalize h4.push (.cells [.int .i64 0, .int .i64 0, .int .i64 0] 0) = h4b at *
          simp (maxSteps := 1000000) (disch := first | decide | omega | (simp only [go_sem]; first | done | omega)) only [go_sem, Int.reduceToNat, Nat.reduceMul, Nat.reduceAdd, Nat.reduceSub, ↓EU_region, ↓EU_draw, c34, c4, dt, bs]
          exact ⟨_, h4b, _, _, _, _, _, _, rfl, by simp (maxSteps := 1000000) (disch := first | decide | omega | (simp only [go_sem]; first | done | omega)) only [go_sem, Int.reduceToNat, Nat.reduceMul, Nat.reduceAdd, Nat.reduceSub, ↓EU_region, ↓EU_draw, g1], by simp (maxSteps := 1000000) (disch := first | decide | omega | (simp only [go_sem]; first | done | omega)) only [go_sem, Int.reduceToNat, Nat.reduceMul, Nat.reduceAdd, Nat.reduceSub, ↓EU_region, ↓EU_draw, g2], by simp (maxSteps := 1000000) (disch := first | decide | omega | (simp only [go_sem]; first | done | omega)) only [go_sem, Int.reduceToNat, Nat.reduceMul, Nat.reduceAdd, Nat.reduceSub, ↓EU_region, ↓EU_draw, g7], by simp (maxSteps := 1000000) (disch := first | decide | omega | (simp only [go_sem]; first | done | omega)) only [go_sem, Int.reduceToNat, Nat.reduceMul, Nat.reduceAdd, Nat.reduceSub, ↓EU_region, ↓EU_draw, g8], by simp (maxSteps := 1000000) (disch := first | decide | omega | (simp only [go_sem]; first | done | omega)) only [go_sem, Int.reduceToNat, Nat.reduceMul, Nat.reduceAdd, Nat.reduceSub, ↓EU_region, ↓EU_draw, g9], by simp (maxSteps := 1000000) (disch := first | decide | omega | (simp only [go_sem]; first | done | omega)) only [go_sem, Int.reduceToNat, Nat.reduceMul, Nat.reduceAdd, Nat.reduceSub, ↓EU_region, ↓EU_draw], (pA.ext x34).up, k4, by omega⟩
        · exact absurd hyid (p.ld.lk.mem hno k y hy)
      · simp only at q' m'
        have k3o := (m'.old _ (by omega : h'.next < hA.next) (fun e => Nat.lt_irrefl _ (nq' _ e))).trans kA
        have rr3 := pA.rr.modO m' (fun j e1 e2 => p.dj j e2 e1)
        have hl3 := m'.le
        unfold rE ful
        have x3 : Ext h3 (h3.push (.cells [.int .i64 x.key, .int .i64 (du x.id), .int .i64 x.id] 0)) := (Ext.refl h3).push _
        have k3 := (x3.old _ (by omega : h'.next < h3.next)).trans k3o
        have c3 : (h3.push (.cells [.int .i64 x.key, .int .i64 (du x.id), .int .i64 x.id] 0)).get h3.next = .cells [.int .i64 x.key, .int .i64 (du x.id), .int .i64 x.id] 0 := get_push_new _ _
        have n3 : (h3.push (.cells [.int .i64 x.key, .int .i64 (du x.id), .int .i64 x.id] 0)).next = h3.next + 1 := next_push _ _
        have q' := q'.ext x3
        have m' := m'.trans (x3.mod _)
        have rr3 := rr3.ext x3
        simp (maxSteps := 1000000) (disch := first | decide | omega | (simp only [go_sem]; first | done | omega)) only [go_sem, Int.reduceToNat, Nat.reduceMul, Nat.reduceAdd, Nat.reduceSub, ↓EU_region, ↓EU_draw, g8, k3o]
        generalize h3.push (.cells [.int .i64 x.key, .int .i64 (du x.id), .int .i64 x.id] 0) = h3b at *
        repeat refine WPo_ob ?_
        refine (rdrop_ev rr3 id (by omega)).mono ?_
        rintro ⟨v4, h4⟩ (⟨_, _, hn2⟩ | ⟨k, y, hy, hyid, rfl, vw', r4, m4, f4⟩)
        · exact absurd hxid (p.ld.lk.mem' hn2 n x hx)
        simp only at r4 m4 f4
        have hyx := p.ld.lk.find pA.dq.qr.nodup hy hx (hyid.trans hxid.symm)
        have hfu := p.ld.at hy hyx
        have hyk : x.key = y.key := by rw [← hyx]; rfl
        have hyd : du x.id = y.due := by rw [← hfu]; rfl
        have hyi : x.id = y.id := hxid.trans hyid.symm
        have hl4 := m4.le
        have x4 : Ext h4 (h4.push (.cells [.int .i64 y.key, .int .i64 y.due, .int .i64 y.id] 0)) := (Ext.refl h4).push _
        have k4 := (x4.old h'.next (by omega)).trans ((m4.old h'.next (by omega) (fun e => by have := nw' bw (.inl rfl); omega)).trans k3)
        have c34 := (x4.old h3.next (by omega)).trans ((m4.old h3.next (by omega) (fun e => by have := nw' bw (.inl rfl); omega)).trans c3)
        have c4 : (h4.push (.cells [.int .i64 y.key, .int .i64 y.due, .int .i64 y.id] 0)).get h4.next = .cells [.int .i64 y.key, .int .i64 y.due, .int .i64 y.id] 0 := get_push_new _ _
        have n4 : (h4.push (.cells [.int .i64 y.key, .int .i64 y.due, .int .i64 y.id] 0)).next = h4.next + 1 := next_push _ _
        have hll := pp.length_eq
        rw [List.length_cons] at hll
        have p4 := pA.both q' m' (fun j e => .inl (w' j e)) (r4.ext x4) (m4.trans (x4.mod _)) (fun j e => .inl (f4 j e)) (p.ld.del hy (by rw [hyx]; exact pp)) hp' (by omega) (by have := p.lm; omega)
        rw [hyk, hyd, hyi] at c34
        unfold rE
        simp (maxSteps := 1000000) (disch := first | decide | omega | (simp only [go_sem]; first | done | omega)) only [go_sem, Int.reduceToNat, Nat.reduceMul, Nat.reduceAdd, Nat.reduceSub]
        generalize h4.push (.cells [.int .i64 y.key, .int .i64 y.due, .int .i64 y.id] 0) = h4b at *
        simp (maxSteps := 1000000) (disch := first | decide | omega | (simp only [go_sem]; first | done | omega)) only [go_sem, Int.reduceToNat, Nat.reduceMul, Nat.reduceAdd, Nat.reduceSub, ↓EU_region, ↓EU_draw, c34, c4, dt, bs]
        exact ⟨_, h4b, _, _, _, _, _, _, rfl, by simp (maxSteps := 1000000) (disch := first | decide | omega | (simp only [go_sem]; first | done | omega)) only [go_sem, Int.reduceToNat, Nat.reduceMul, Nat.reduceAdd, Nat.reduceSub, ↓EU_region, ↓EU_draw, g1], by simp (maxSteps := 1000000) (disch := first | decide | omega | (simp only [go_sem]; first | done | omega)) only [go_sem, Int.reduceToNat, Nat.reduceMul, Nat.reduceAdd, Nat.reduceSub, ↓EU_region, ↓EU_draw, g2], by simp (maxSteps := 1000000) (disch := first | decide | omega | (simp only [go_sem]; first | done | omega)) only [go_sem, Int.reduceToNat, Nat.reduceMul, Nat.reduceAdd, Nat.reduceSub, ↓EU_region, ↓EU_draw, g7], by simp (maxSteps := 1000000) (disch := first | decide | omega | (simp only [go_sem]; first | done | omega)) only [go_sem, Int.reduceToNat, Nat.reduceMul, Nat.reduceAdd, Nat.reduceSub, ↓EU_region, ↓EU_draw, g8], by simp (maxSteps := 1000000) (disch := first | decide | omega | (simp only [go_sem]; first | done | omega)) only [go_sem, Int.reduceToNat, Nat.reduceMul, Nat.reduceAdd, Nat.reduceSub, ↓EU_region, ↓EU_draw, g9], by simp (maxSteps := 1000000) (disch := first | decide | omega | (simp only [go_sem]; first | done | omega)) only [go_sem, Int.reduceToNat, Nat.reduceMul, Nat.reduceAdd, Nat.reduceSub, ↓EU_region, ↓EU_draw], p4, k4, by omega⟩
    have d1 : decide (op = 1) = false := decide_eq_false o1
    simp (maxSteps := 1000000) (disch := first | decide | omega | (simp only [go_sem]; first | done | omega)) only [go_sem, Int.reduceToNat, Nat.reduceMul, Nat.reduceAdd, Nat.reduceSub, ↓EU_region, ↓EU_draw, d0, d1, g7, kA]
    repeat refine WPo_ob ?_
    refine (dset_ev pA.dq id key due (by omega)).mono ?_
    rintro ⟨v3, h3⟩ (⟨rfl, e, hno⟩ | ⟨n, x, hx, hxid, rfl, L', sq', q', m', pp, hp'⟩)
    · simp only at e
      have e := e.symm
      subst e
      simp (maxSteps := 1000000) (disch := first | decide | omega | (simp only [go_sem]; first | done | omega)) only [go_sem, Int.reduceToNat, Nat.reduceMul, Nat.reduceAdd, Nat.reduceSub, ↓EU_region, ↓EU_draw, g8, kA]
      repeat refine WPo_ob ?_
      refine (rdrop_ev pA.rr id (by omega)).mono ?_
      rintro ⟨v4, h4⟩ (⟨rfl, x4, _⟩ | ⟨k, y, hy, hyid, _⟩)
      · simp only at x4
        have x4 := x4.push (.cells [.int .i64 0, .int .i64 0, .int .i64 0] 0)
        have k4 := (x4.old _ (by omega : h'.next < hA.next)).trans kA
        have n4 : (h4.push (.cells [.int .i64 0, .int .i64 0, .int .i64 0] 0)).next = h4.next + 1 := next_push _ _
        have hle4 := x4.le
        simp (maxSteps := 1000000) (disch := first | decide | omega | (simp only [go_sem]; first | done | omega)) only [go_sem, Int.reduceToNat, Nat.reduceMul, Nat.reduceAdd, Nat.reduceSub]
        generalize h4.push (.cells [.int .i64 0, .int .i64 0, .int .i64 0] 0) = h4b at *
        simp (maxSteps := 1000000) (disch := first | decide | omega | (simp only [go_sem]; first | done | omega)) only [go_sem, Int.reduceToNat, Nat.reduceMul, Nat.reduceAdd, Nat.reduceSub, ↓EU_region, ↓EU_draw, bs]
        exact ⟨_, h4b, _, _, _, _, _, _, rfl, by simp (maxSteps := 1000000) (disch := first | decide | omega | (simp only [go_sem]; first | done | omega)) only [go_sem, Int.reduceToNat, Nat.reduceMul, Nat.reduceAdd, Nat.reduceSub, ↓EU_region, ↓EU_draw, g1], by simp (maxSteps := 1000000) (disch := first | decide | omega | (simp only [go_sem]; first | done | omega)) only [go_sem, Int.reduceToNat, Nat.reduceMul, Nat.reduceAdd, Nat.reduceSub, ↓EU_region, ↓EU_draw, g2], by simp (maxSteps := 1000000) (disch := first | decide | omega | (simp only [go_sem]; first | done | omega)) only [go_sem, Int.reduceToNat, Nat.reduceMul, Nat.reduceAdd, Nat.reduceSub, ↓EU_region, ↓EU_draw, g7], by simp (maxSteps := 1000000) (disch := first | decide | omega | (simp only [go_sem]; first | done | omega)) only [go_sem, Int.reduceToNat, Nat.reduceMul, Nat.reduceAdd, Nat.reduceSub, ↓EU_region, ↓EU_draw, g8], by simp (maxSteps := 1000000) (disch := first | decide | omega | (simp only [go_sem]; first | done | omega)) only [go_sem, Int.reduceToNat, Nat.reduceMul, Nat.reduceAdd, Nat.reduceSub, ↓EU_region, ↓EU_draw, g9], by simp (maxSteps := 1000000) (disch := first | decide | omega | (simp only [go_sem]; first | done | omega)) only [go_sem, Int.reduceToNat, Nat.reduceMul, Nat.reduceAdd, Nat.reduceSub, ↓EU_region, ↓EU_draw], (pA.ext x4).up, k4, by omega⟩
      · exact absurd hyid (p.ld.lk.mem hno k y hy)
    · simp only at q' m'
      have k3 := (m'.old _ (by omega : h'.next < hA.next) (fun e => Nat.lt_irrefl _ (nq' _ e))).trans kA
      have k3X := (m'.old _ (by omega : h'.next + 1 < hA.next) (fun e => by have := nq' _ e; omega)).trans kX
      have rr3 := pA.rr.modO m' (fun j e1 e2 => p.dj j e2 e1)
      have hl3 := m'.le
      simp (maxSteps := 1000000) (disch := first | decide | omega | (simp only [go_sem]; first | done | omega)) only [go_sem, Int.reduceToNat, Nat.reduceMul, Nat.reduceAdd, Nat.reduceSub, ↓EU_region, ↓EU_draw, g8, k3]
      repeat refine WPo_ob ?_
      refine (rdrop_ev rr3 id (by omega)).mono ?_
      rintro ⟨v4, h4⟩ (⟨_, _, hn2⟩ | ⟨k, y, hy, hyid, rfl, vw', r4, m4, f4⟩)
      · exact absurd hxid (p.ld.lk.mem' hn2 n x hx)
      simp only at r4 m4 f4
      have hyx := p.ld.lk.find pA.dq.qr.nodup hy hx (hyid.trans hxid.symm)
      have hl4 := m4.le
      have x4 : Ext h4 (h4.push (.cells [.int .i64 y.key, .int .i64 y.due, .int .i64 y.id] 0)) := (Ext.refl h4).push _
      have k4X0 := (m4.old (h'.next + 1) (by omega) (fun e => by have := nw' bw (.inl rfl); omega)).trans k3X
      have k4 := (x4.old h'.next (by omega)).trans ((m4.old h'.next (by omega) (fun e => by have := nw' bw (.inl rfl); omega)).trans k3)
      have k4X := (x4.old (h'.next + 1) (by omega)).trans k4X0
      have n4 : (h4.push (.cells [.int .i64 y.key, .int .i64 y.due, .int .i64 y.id] 0)).next = h4.next + 1 := next_push _ _
      have r4 := r4.ext x4
      have m4 := m4.trans (x4.mod _)
      obtain ⟨r, hr1, hr2⟩ := set_perm (y := ⟨key, id⟩) hx
      have ld4 := p.ld.del hy (by rw [hyx]; exact hr1)
      have hkl := (List.getElem?_eq_some_iff.1 hy).1
      have hlen4 : (W.take k ++ W.drop (k + 1)).length + 1 = L.length := by rw [List.length_append, List.length_take, List.length_drop]; omega
      unfold rE
      simp (maxSteps := 1000000) (disch := first | decide | omega | (simp only [go_sem]; first | done | omega)) only [go_sem, Int.reduceToNat, Nat.reduceMul, Nat.reduceAdd, Nat.reduceSub, ↓EU_region, ↓EU_draw, g8, k4X0]
      generalize h4.push (.cells [.int .i64 y.key, .int .i64 y.due, .int .i64 y.id] 0) = h4b at *
      repeat refine WPo_ob ?_
      refine (rput_ev r4 ⟨key, due, id⟩ (by omega)).mono ?_
      have nid : ∀ (n : Nat) (z : RI), (W.take k ++ W.drop (k + 1))[n]? = some z → z.id ≠ id := fun n z hz => ld4.lk.mem (id := id) (fun j u hu e => by
        have nd := pA.dq.qr.nodup
        have nd2 := (hr1.map (·.id)).nodup_iff.1 nd
        rw [List.map_cons, List.nodup_cons] at nd2
        exact nd2.1 (by
          have : x.id = u.id := by rw [e, hxid]
          rw [this]
          exact List.mem_map_of_mem (List.mem_of_getElem? hu))) n z hz
      rintro ⟨v5, h5⟩ (⟨_, _, n5, y5, hy5, hyid5⟩ | ⟨_, ⟨_, _, hge⟩ | ⟨rfl, hlt, vw5, k5, r5, m5, f5, hk5, hk51, hk52⟩⟩)
      · exact absurd hyid5 (nid n5 y5 hy5)
      · have := p.lm; omega
      · simp only at r5 m5 f5
        have k5' := (m5.old h'.next (by omega) (fun e => by have := nw' bw (.inl rfl); omega)).trans k4
        have n5 := m5.le
        have ll := pp.length_eq
        rw [List.length_set] at ll
        have p5 := pA.both q' m' (fun j e => .inl e) r5 (m4.trans m5) (fun j e => .inl (by have := f5 j e; omega)) (ld4.ins hk5 hk51 hk52 (pp.trans hr2) nid) hp' (by omega) (by have := p.lm; omega)
        simp (maxSteps := 1000000) (disch := first | decide | omega | (simp only [go_sem]; first | done | omega)) only [go_sem, Int.reduceToNat, Nat.reduceMul, Nat.reduceAdd, Nat.reduceSub, ↓EU_region, ↓EU_draw, bs]
        exact ⟨_, h5, _, _, _, _, _, _, rfl, by simp (maxSteps := 1000000) (disch := first | decide | omega | (simp only [go_sem]; first | done | omega)) only [go_sem, Int.reduceToNat, Nat.reduceMul, Nat.reduceAdd, Nat.reduceSub, ↓EU_region, ↓EU_draw, g1], by simp (maxSteps := 1000000) (disch := first | decide | omega | (simp only [go_sem]; first | done | omega)) only [go_sem, Int.reduceToNat, Nat.reduceMul, Nat.reduceAdd, Nat.reduceSub, ↓EU_region, ↓EU_draw, g2], by simp (maxSteps := 1000000) (disch := first | decide | omega | (simp only [go_sem]; first | done | omega)) only [go_sem, Int.reduceToNat, Nat.reduceMul, Nat.reduceAdd, Nat.reduceSub, ↓EU_region, ↓EU_draw, g7], by simp (maxSteps := 1000000) (disch := first | decide | omega | (simp only [go_sem]; first | done | omega)) only [go_sem, Int.reduceToNat, Nat.reduceMul, Nat.reduceAdd, Nat.reduceSub, ↓EU_region, ↓EU_draw, g8], by simp (maxSteps := 1000000) (disch := first | decide | omega | (simp only [go_sem]; first | done | omega)) only [go_sem, Int.reduceToNat, Nat.reduceMul, Nat.reduceAdd, Nat.reduceSub, ↓EU_region, ↓EU_draw, g9], by simp (maxSteps := 1000000) (disch := first | decide | omega | (simp only [go_sem]; first | done | omega)) only [go_sem, Int.reduceToNat, Nat.reduceMul, Nat.reduceAdd, Nat.reduceSub, ↓EU_region, ↓EU_draw], p5, k5', by omega⟩
  clear g1 g2 g7 g8 g9
  rintro _ ⟨tm, h2, lv2, vw2, sq2, L2, W2, du2, rfl, g1, g2, g7, g8, g9, g10, p2, k2, n2⟩
  have hL2 := p2.le
  have hW2 := p2.ld.lk.len
  have hwh := p2.ld.whole
  have hun : ∀ a ∈ W2, ∀ b ∈ W2, a.id = b.id → a = b := by rw [← hwh]; exact wholeL_uniq p2.dq.qr.nodup
  have hso : W2.Pairwise fun a b => ¬ ltR b a := p2.ld.lk.so
  simp (maxSteps := 1000000) (disch := first | decide | omega | (simp only [go_sem]; first | done | omega)) only [go_sem, Int.reduceToNat, Nat.reduceMul, Nat.reduceAdd, Nat.reduceSub, ↓EU_region, ↓EU_draw]
  repeat refine WPo_ob ?_
  refine (LP_rule (fun m st => ∃ (k : Nat) (tm : Fr) (h3 : Heap), st = ⟨tm, h3, []⟩ ∧ m = ak.length - k ∧ k ≤ ak.length ∧ Fr.get tm 1 = .slice (some ⟨B1, o, none⟩) l.length c ∧ Fr.get tm 2 = .slice a2 ak.length c2 ∧ Fr.get tm 7 = ptr B 0 ∧ Fr.get tm 8 = ptr bw 0 ∧ Fr.get tm 9 = .int .i64 (i : Int) ∧ Fr.get tm 10 = ptr h'.next 0 ∧ Fr.get tm 19 = .int .i64 (k : Int) ∧ Ext h2 h3)
    (fun q => ∃ (tm : Fr) (h3 : Heap), q.2 = ⟨tm, h3, []⟩ ∧ q.1 = .exit 3 ∧ Fr.get tm 1 = .slice (some ⟨B1, o, none⟩) l.length c ∧ Fr.get tm 2 = .slice a2 ak.length c2 ∧ Fr.get tm 7 = ptr B 0 ∧ Fr.get tm 8 = ptr bw 0 ∧ Fr.get tm 9 = .int .i64 (i : Int) ∧ Fr.get tm 10 = ptr h'.next 0 ∧ Ext h2 h3) ?_ ak.length _ _ ?_ ?_).mono ?_
  · clear g1 g2 g7 g8 g9 g10
    rintro m _ ⟨k, tm, h3, rfl, hmk, hk, g1, g2, g7, g8, g9, g10, g19, x3⟩
    by_cases hq : k < ak.length
    · have hmm2 : ak.length - (k + 1) < m := by omega
      have hk1 : k + 1 ≤ ak.length := hq
      have d : decide ((k : Int) < (ak.length : Int)) = true := decide_eq_true (by omega)
      obtain ⟨z, hz⟩ : ∃ z, ak[k]? = some z := ⟨_, List.getElem?_eq_getElem hq⟩
      have hwk : wrapF .i64 ((k : Int) + 1) = ((k + 1 : Nat) : Int) := by rw [wrap64 (by omega)]; rfl
      have p3 := p2.ext x3
      obtain ⟨B2, o2, c2', e, _, _, t3⟩ := (hs2.ext p3.xx).at hz rfl
      cases e
      have t3 := t3 0 _ rfl
      rw [add_z] at t3
      simp (maxSteps := 1000000) (disch := first | decide | omega | (simp only [go_sem]; first | done | omega)) only [go_sem, Int.reduceToNat, Nat.reduceMul, Nat.reduceAdd, Nat.reduceSub, ↓EU_region, ↓EU_draw, g2, g7, g19, d, t3]
      repeat refine WPo_ob ?_
      refine (dfirst_ev p3.dq z (by omega)).mono ?_
      rintro ⟨v4, h4⟩ ⟨⟨⟨u, bu⟩, fs, rfl⟩, x4⟩
      simp only at x4
      have fs := fs.sp (wholeL_so _ _)
      rw [hwh] at fs
      have hle4 := x4.le
      have x4 := x4.push (.cells [.int .i64 u.key, .int .i64 u.due, .int .i64 u.id] 0)
      have c4 : (h4.push (.cells [.int .i64 u.key, .int .i64 u.due, .int .i64 u.id] 0)).get h4.next = .cells [.int .i64 u.key, .int .i64 u.due, .int .i64 u.id] 0 := get_push_new _ _
      have n4 : (h4.push (.cells [.int .i64 u.key, .int .i64 u.due, .int .i64 u.id] 0)).next = h4.next + 1 := next_push _ _
      have p4 := p3.ext x4
      obtain ⟨B2, o2, c2', e, _, _, t4⟩ := (hs2.ext p4.xx).at hz rfl
      cases e
      have t4 := t4 0 _ rfl
      rw [add_z] at t4
      unfold rE
      simp (maxSteps := 1000000) (disch := first | decide | omega | (simp only [go_sem]; first | done | omega)) only [go_sem, Int.reduceToNat, Nat.reduceMul, Nat.reduceAdd, Nat.reduceSub]
      generalize h4.push (.cells [.int .i64 u.key, .int .i64 u.due, .int .i64 u.id] 0) = h4b at *
      simp (maxSteps := 1000000) (disch := first | decide | omega | (simp only [go_sem]; first | done | omega)) only [go_sem, Int.reduceToNat, Nat.reduceMul, Nat.reduceAdd, Nat.reduceSub, ↓EU_region, ↓EU_draw, g2, g8, g19, t4]
      repeat refine WPo_ob ?_
      refine (rfirst_ev p4.rr z (by omega)).mono ?_
      rintro ⟨v5, h5⟩ ⟨⟨⟨u', bu'⟩, fs', rfl⟩, x5⟩
      simp only at x5
      have hsame : ((u, bu) : RI × Bool) = (u', bu') := fs.uniq fs' (fun _ => Iff.rfl) hun
      cases hsame
      have hle5 := x5.le
      have x5 := x5.push (.cells [.int .i64 u.key, .int .i64 u.due, .int .i64 u.id] 0)
      have c45 := (x5.old h4.next (by omega)).trans c4
      have c5 : (h5.push (.cells [.int .i64 u.key, .int .i64 u.due, .int .i64 u.id] 0)).get h5.next = .cells [.int .i64 u.key, .int .i64 u.due, .int .i64 u.id] 0 := get_push_new _ _
      unfold rE
      simp (maxSteps := 1000000) (disch := first | decide | omega | (simp only [go_sem]; first | done | omega)) only [go_sem, Int.reduceToNat, Nat.reduceMul, Nat.reduceAdd, Nat.reduceSub]
      generalize h5.push (.cells [.int .i64 u.key, .int .i64 u.due, .int .i64 u.id] 0) = h5b at *
      simp (maxSteps := 1000000) (disch := first | decide | omega | (simp only [go_sem]; first | done | omega)) only [go_sem, Int.reduceToNat, Nat.reduceMul, Nat.reduceAdd, Nat.reduceSub, ↓EU_region, ↓EU_draw, c45, c5, dt, bs, g19, hwk]
      exact ⟨ak.length - (k + 1), hmm2, k + 1, _, h5b, rfl, rfl, hk1, by simp (maxSteps := 1000000) (disch := first | decide | omega | (simp only [go_sem]; first | done | omega)) only [go_sem, Int.reduceToNat, Nat.reduceMul, Nat.reduceAdd, Nat.reduceSub, ↓EU_region, ↓EU_draw, g1], by simp (maxSteps := 1000000) (disch := first | decide | omega | (simp only [go_sem]; first | done | omega)) only [go_sem, Int.reduceToNat, Nat.reduceMul, Nat.reduceAdd, Nat.reduceSub, ↓EU_region, ↓EU_draw, g2], by simp (maxSteps := 1000000) (disch := first | decide | omega | (simp only [go_sem]; first | done | omega)) only [go_sem, Int.reduceToNat, Nat.reduceMul, Nat.reduceAdd, Nat.reduceSub, ↓EU_region, ↓EU_draw, g7], by simp (maxSteps := 1000000) (disch := first | decide | omega | (simp only [go_sem]; first | done | omega)) only [go_sem, Int.reduceToNat, Nat.reduceMul, Nat.reduceAdd, Nat.reduceSub, ↓EU_region, ↓EU_draw, g8], by simp (maxSteps := 1000000) (disch := first | decide | omega | (simp only [go_sem]; first | done | omega)) only [go_sem, Int.reduceToNat, Nat.reduceMul, Nat.reduceAdd, Nat.reduceSub, ↓EU_region, ↓EU_draw, g9], by simp (maxSteps := 1000000) (disch := first | decide | omega | (simp only [go_sem]; first | done | omega)) only [go_sem, Int.reduceToNat, Nat.reduceMul, Nat.reduceAdd, Nat.reduceSub, ↓EU_region, ↓EU_draw, g10], by simp (maxSteps := 1000000) (disch := first | decide | omega | (simp only [go_sem]; first | done | omega)) only [go_sem, Int.reduceToNat, Nat.reduceMul, Nat.reduceAdd, Nat.reduceSub, ↓EU_region, ↓EU_draw], x3.trans (x4.trans x5)⟩
    · have d : decide ((k : Int) < (ak.length : Int)) = false := decide_eq_false (by omega)
      simp (maxSteps := 1000000) (disch := first | decide | omega | (simp only [go_sem]; first | done | omega)) only [go_sem, Int.reduceToNat, Nat.reduceMul, Nat.reduceAdd, Nat.reduceSub, ↓EU_region, ↓EU_draw, g2, g19, d]
      exact ⟨_, h3, rfl, trivial, by simp (maxSteps := 1000000) (disch := first | decide | omega | (simp only [go_sem]; first | done | omega)) only [go_sem, Int.reduceToNat, Nat.reduceMul, Nat.reduceAdd, Nat.reduceSub, ↓EU_region, ↓EU_draw, g1], by simp (maxSteps := 1000000) (disch := first | decide | omega | (simp only [go_sem]; first | done | omega)) only [go_sem, Int.reduceToNat, Nat.reduceMul, Nat.reduceAdd, Nat.reduceSub, ↓EU_region, ↓EU_draw, g2], by simp (maxSteps := 1000000) (disch := first | decide | omega | (simp only [go_sem]; first | done | omega)) only [go_sem, Int.reduceToNat, Nat.reduceMul, Nat.reduceAdd, Nat.reduceSub, ↓EU_region, ↓EU_draw, g7], by simp (maxSteps := 1000000) (disch := first | decide | omega | (simp only [go_sem]; first | done | omega)) only [go_sem, Int.reduceToNat, Nat.reduceMul, Nat.reduceAdd, Nat.reduceSub, ↓EU_region, ↓EU_draw, g8], by simp (maxSteps := 1000000) (disch := first | decide | omega | (simp only [go_sem]; first | done | omega)) only [go_sem, Int.reduceToNat, Nat.reduceMul, Nat.reduceAdd, Nat.reduceSub, ↓EU_region, ↓EU_draw, g9], by simp (maxSteps := 1000000) (disch := first | decide | omega | (simp only [go_sem]; first | done | omega)) only [go_sem, Int.reduceToNat, Nat.reduceMul, Nat.reduceAdd, Nat.reduceSub, ↓EU_region, ↓EU_draw, g10], x3⟩
  · exact ⟨0, _, h2, rfl, rfl, by omega, by simp (maxSteps := 1000000) (disch := first | decide | omega | (simp only [go_sem]; first | done | omega)) only [go_sem, Int.reduceToNat, Nat.reduceMul, Nat.reduceAdd, Nat.reduceSub, ↓EU_region, ↓EU_draw, g1], by simp (maxSteps := 1000000) (disch := first | decide | omega | (simp only [go_sem]; first | done | omega)) only [go_sem, Int.reduceToNat, Nat.reduceMul, Nat.reduceAdd, Nat.reduceSub, ↓EU_region, ↓EU_draw, g2], by simp (maxSteps := 1000000) (disch := first | decide | omega | (simp only [go_sem]; first | done | omega)) only [go_sem, Int.reduceToNat, Nat.reduceMul, Nat.reduceAdd, Nat.reduceSub, ↓EU_region, ↓EU_draw, g7], by simp (maxSteps := 1000000) (disch := first | decide | omega | (simp only [go_sem]; first | done | omega)) only [go_sem, Int.reduceToNat, Nat.reduceMul, Nat.reduceAdd, Nat.reduceSub, ↓EU_region, ↓EU_draw, g8], by simp (maxSteps := 1000000) (disch := first | decide | omega | (simp only [go_sem]; first | done | omega)) only [go_sem, Int.reduceToNat, Nat.reduceMul, Nat.reduceAdd, Nat.reduceSub, ↓EU_region, ↓EU_draw, g9], by simp (maxSteps := 1000000) (disch := first | decide | omega | (simp only [go_sem]; first | done | omega)) only [go_sem, Int.reduceToNat, Nat.reduceMul, Nat.reduceAdd, Nat.reduceSub, ↓EU_region, ↓EU_draw, g10], by simp (maxSteps := 1000000) (disch := first | decide | omega | (simp only [go_sem]; first | done | omega)) only [go_sem, Int.reduceToNat, Nat.reduceMul, Nat.reduceAdd, Nat.reduceSub, ↓EU_region, ↓EU_draw]; rfl, Ext.refl _⟩
  · omega
  clear g1 g2 g7 g8 g9 g10
  rintro ⟨_, _⟩ ⟨tm, h3, rfl, rfl, g1, g2, g7, g8, g9, g10, x3⟩
  have p3 := p2.ext x3
  have k3 := (x3.old _ n2).trans k2
  have hl3 := x3.le
  simp (maxSteps := 1000000) (disch := first | decide | omega | (simp only [go_sem]; first | done | omega)) only [go_sem, Int.reduceToNat, Nat.reduceMul, Nat.reduceAdd, Nat.reduceSub, ↓EU_region, ↓EU_draw, g8, g10, k3]
  repeat refine WPo_ob ?_
  refine (at_ev p3.rr id (by omega)).mono ?_
  rintro ⟨v4, h4⟩ ⟨e, r⟩
  simp only at e r
  have e := e.symm
  subst e
  have hk : ∃ (kz : Int) (gv : RI) (tb : Bool), v4 = .int .i64 kz ∧ Pu (EF Try.prog O0 16 [ptr B 0, .int .i64 id] h3) h3 (.tuple ⟨[.agg ⟨[.int .i64 gv.key, .int .i64 gv.due, .int .i64 gv.id]⟩, .bool tb]⟩) ∧ decide (kz ≥ 0) = tb ∧ (tb = true → ∃ (n : Nat) (y : RI), kz = (n : Int) ∧ W2[n]? = some y ∧ gv = y) := by
    rcases dget_ev p3.dq id with ⟨n, x, hx, hxid, e⟩ | ⟨hno, e⟩
    · rcases r with ⟨k, y, hy, hyid, e3⟩ | ⟨hn2, _⟩
      · have hyx := p2.ld.lk.find p2.dq.qr.nodup hy hx (hyid.trans hxid.symm)
        have hfu := p2.ld.at hy hyx
        rw [hfu] at e
        exact ⟨(k : Int), y, true, e3, e, decide_eq_true (by omega), fun _ => ⟨k, y, rfl, hy, rfl⟩⟩
      · exact absurd hxid (p2.ld.lk.mem' hn2 n x hx)
    · rcases r with ⟨k, y, hy, hyid, e3⟩ | ⟨hn2, e3⟩
      · exact absurd hyid (p2.ld.lk.mem hno k y hy)
      · exact ⟨-1, ⟨0, 0, 0⟩, false, e3, e, rfl, fun e => by cases e⟩
  obtain ⟨kz, gv, tb, rfl, hget, hkd, hkt⟩ := hk
  simp (maxSteps := 1000000) (disch := first | decide | omega | (simp only [go_sem]; first | done | omega)) only [go_sem, Int.reduceToNat, Nat.reduceMul, Nat.reduceAdd, Nat.reduceSub, ↓EU_region, ↓EU_draw, g7, g10, k3]
  repeat refine WPo_ob ?_
  refine hget.bind fun h5 x5 => ?_
  have hle5 := x5.le
  have x5 := x5.push (.cells [.int .i64 gv.key, .int .i64 gv.due, .int .i64 gv.id] 0)
  have c5 : (h5.push (.cells [.int .i64 gv.key, .int .i64 gv.due, .int .i64 gv.id] 0)).get h5.next = .cells [.int .i64 gv.key, .int .i64 gv.due, .int .i64 gv.id] 0 := get_push_new _ _
  have n5 : (h5.push (.cells [.int .i64 gv.key, .int .i64 gv.due, .int .i64 gv.id] 0)).next = h5.next + 1 := next_push _ _
  have p5 := p3.ext x5
  simp (maxSteps := 1000000) (disch := first | decide | omega | (simp only [go_sem]; first | done | omega)) only [go_sem, Int.reduceToNat, Nat.reduceMul, Nat.reduceAdd, Nat.reduceSub]
  generalize h5.push (.cells [.int .i64 gv.key, .int .i64 gv.due, .int .i64 gv.id] 0) = h5b at *
  have ql5 := dlen_ev p5.dq
  repeat refine WPo_ob ?_
  refine WPo.mono (Q := fun q => ∃ tm, q = (.normal, ⟨tm, h5b, []⟩) ∧ Fr.get tm 250 = .bool false ∧ Fr.get tm 1 = .slice (some ⟨B1, o, none⟩) l.length c ∧ Fr.get tm 2 = .slice a2 ak.length c2 ∧ Fr.get tm 7 = ptr B 0 ∧ Fr.get tm 8 = ptr bw 0 ∧ Fr.get tm 9 = .int .i64 (i : Int)) ?_ ?_
  · have cb2 := p5.rr.cb
    have bl2 := p5.rr.bl
    have vq := p5.rr.ow.sl.veq
    obtain ⟨a2', c2', hv2⟩ := p5.rr.ow.val
    cases tb with
    | true =>
      obtain ⟨n, y, rfl, hy, rfl⟩ := hkt rfl
      have hyn := (List.getElem?_eq_some_iff.1 hy).1
      obtain ⟨B7, o7, c7, e7, hB7, _, r7⟩ := p5.rr.ow.sl.at hy rfl
      have r70 := r7 0 _ rfl
      have r71 := r7 1 _ rfl
      rw [add_z] at r70
      rw [e7] at cb2 vq
      rw [EU_bad _ _ rfl, EC_tab (tab := [(false, none), (false, none), (false, none), (false, none), (false, none), (false, none), (false, none), (false, none), (false, none), (false, none), (false, none), (false, none), (false, none), (false, none), (false, none), (false, none), (false, none), (false, none), (false, none), (false, none), (false, none), (false, none), (false, none), (false, none), (false, none), (false, none), (false, none), (false, none), (false, none), (false, none), (false, none), (false, none), (false, none), (false, none), (false, none), (true, none), (false, none), (false, none), (false, none), (false, (some (0, 1))), (false, (some (0, 1))), (false, none), (false, none)]) (by kernel_rfl)]
      simp (maxSteps := 1000000) (disch := first | decide | omega | (simp only [go_sem]; first | done | omega)) only [go_sem, Int.reduceToNat, Nat.reduceMul, Nat.reduceAdd, Nat.reduceSub, ↓EU_region, ↓EU_draw, g7, g8, hkd, bs, cb2, r70, r71, c5, dt, ql5, hW2]
      exact ⟨_, rfl, by simp (maxSteps := 1000000) (disch := first | decide | omega | (simp only [go_sem]; first | done | omega)) only [go_sem, Int.reduceToNat, Nat.reduceMul, Nat.reduceAdd, Nat.reduceSub, ↓EU_region, ↓EU_draw], by simp (maxSteps := 1000000) (disch := first | decide | omega | (simp only [go_sem]; first | done | omega)) only [go_sem, Int.reduceToNat, Nat.reduceMul, Nat.reduceAdd, Nat.reduceSub, ↓EU_region, ↓EU_draw, g1], by simp (maxSteps := 1000000) (disch := first | decide | omega | (simp only [go_sem]; first | done | omega)) only [go_sem, Int.reduceToNat, Nat.reduceMul, Nat.reduceAdd, Nat.reduceSub, ↓EU_region, ↓EU_draw, g2], by simp (maxSteps := 1000000) (disch := first | decide | omega | (simp only [go_sem]; first | done | omega)) only [go_sem, Int.reduceToNat, Nat.reduceMul, Nat.reduceAdd, Nat.reduceSub, ↓EU_region, ↓EU_draw, g7], by simp (maxSteps := 1000000) (disch := first | decide | omega | (simp only [go_sem]; first | done | omega)) only [go_sem, Int.reduceToNat, Nat.reduceMul, Nat.reduceAdd, Nat.reduceSub, ↓EU_region, ↓EU_draw, g8], by simp (maxSteps := 1000000) (disch := first | decide | omega | (simp only [go_sem]; first | done | omega)) only [go_sem, Int.reduceToNat, Nat.reduceMul, Nat.reduceAdd, Nat.reduceSub, ↓EU_region, ↓EU_draw, g9]⟩
    | false =>
      rw [hv2] at cb2 vq
      rw [hW2] at vq
      rw [EU_bad _ _ rfl, EC_tab (tab := [(false, none), (false, none), (false, none), (false, none), (false, none), (false, none), (false, none), (false, none), (false, none), (false, none), (false, none), (false, none), (false, none), (false, none), (false, none), (false, none), (false, none), (false, none), (false, none), (false, none), (false, none), (false, none), (false, none), (false, none), (false, none), (false, none), (false, none), (false, none), (false, none), (false, none), (false, none), (false, none), (false, none), (false, none), (false, none), (true, none), (false, none), (false, none), (false, none), (false, (some (0, 1))), (false, (some (0, 1))), (false, none), (false, none)]) (by kernel_rfl)]
      simp (maxSteps := 1000000) (disch := first | decide | omega | (simp only [go_sem]; first | done | omega)) only [go_sem, Int.reduceToNat, Nat.reduceMul, Nat.reduceAdd, Nat.reduceSub, ↓EU_region, ↓EU_draw, g7, g8, hkd, bs, cb2, dt, ql5, hW2, vq]
      exact ⟨_, rfl, by simp (maxSteps := 1000000) (disch := first | decide | omega | (simp only [go_sem]; first | done | omega)) only [go_sem, Int.reduceToNat, Nat.reduceMul, Nat.reduceAdd, Nat.reduceSub, ↓EU_region, ↓EU_draw], by simp (maxSteps := 1000000) (disch := first | decide | omega | (simp only [go_sem]; first | done | omega)) only [go_sem, Int.reduceToNat, Nat.reduceMul, Nat.reduceAdd, Nat.reduceSub, ↓EU_region, ↓EU_draw, g1], by simp (maxSteps := 1000000) (disch := first | decide | omega | (simp only [go_sem]; first | done | omega)) only [go_sem, Int.reduceToNat, Nat.reduceMul, Nat.reduceAdd, Nat.reduceSub, ↓EU_region, ↓EU_draw, g2], by simp (maxSteps := 1000000) (disch := first | decide | omega | (simp only [go_sem]; first | done | omega)) only [go_sem, Int.reduceToNat, Nat.reduceMul, Nat.reduceAdd, Nat.reduceSub, ↓EU_region, ↓EU_draw, g7], by simp (maxSteps := 1000000) (disch := first | decide | omega | (simp only [go_sem]; first | done | omega)) only [go_sem, Int.reduceToNat, Nat.reduceMul, Nat.reduceAdd, Nat.reduceSub, ↓EU_region, ↓EU_draw, g8], by simp (maxSteps := 1000000) (disch := first | decide | omega | (simp only [go_sem]; first | done | omega)) only [go_sem, Int.reduceToNat, Nat.reduceMul, Nat.reduceAdd, Nat.reduceSub, ↓EU_region, ↓EU_draw, g9]⟩
  clear g1 g2 g7 g8 g9 g10
  rintro _ ⟨tm, rfl, g250, g1, g2, g7, g8, g9⟩
  have hlm : ∃ (mv : RI) (tb : Bool), Pu (EF Try.prog O0 15 [ptr B 0] h5b) h5b (.tuple ⟨[.agg ⟨[.int .i64 mv.key, .int .i64 mv.due, .int .i64 mv.id]⟩, .bool tb]⟩) ∧ decide (0 < (W2.length : Int)) = tb ∧ (tb = true → W2[0]? = some mv) := by
    rcases dleast_ev p5.dq with ⟨hL0, e⟩ | ⟨x, t, hL0, e⟩
    · exact ⟨⟨0, 0, 0⟩, false, e, decide_eq_false (by rw [hW2, hL0]; simp), fun e => by cases e⟩
    · obtain ⟨y, hy, hyx⟩ := p5.ld.lk.first p5.hp hL0
      have hfu := p5.ld.at hy hyx
      rw [hfu] at e
      exact ⟨y, true, e, decide_eq_true (by rw [hW2, hL0]; simp only [List.length_cons]; omega), fun _ => hy⟩
  obtain ⟨mv, tb2, hmin, hdm, hmt⟩ := hlm
  simp (maxSteps := 1000000) (disch := first | decide | omega | (simp only [go_sem]; first | done | omega)) only [go_sem, Int.reduceToNat, Nat.reduceMul, Nat.reduceAdd, Nat.reduceSub, ↓EU_region, ↓EU_draw, g250, g7]
  repeat refine WPo_ob ?_
  refine hmin.bind fun h6 x6 => ?_
  have hle6 := x6.le
  have x6 := x6.push (.cells [.int .i64 mv.key, .int .i64 mv.due, .int .i64 mv.id] 0)
  have c6 : (h6.push (.cells [.int .i64 mv.key, .int .i64 mv.due, .int .i64 mv.id] 0)).get h6.next = .cells [.int .i64 mv.key, .int .i64 mv.due, .int .i64 mv.id] 0 := get_push_new _ _
  have n6 : (h6.push (.cells [.int .i64 mv.key, .int .i64 mv.due, .int .i64 mv.id] 0)).next = h6.next + 1 := next_push _ _
  have p6 := p5.ext x6
  have cb6 := p6.rr.cb
  have bl6 := p6.rr.bl
  simp (maxSteps := 1000000) (disch := first | decide | omega | (simp only [go_sem]; first | done | omega)) only [go_sem, Int.reduceToNat, Nat.reduceMul, Nat.reduceAdd, Nat.reduceSub]
  generalize h6.push (.cells [.int .i64 mv.key, .int .i64 mv.due, .int .i64 mv.id] 0) = h6b at *
  cases tb2 with
  | true =>
    have hy := hmt rfl
    have hwp := (List.getElem?_eq_some_iff.1 hy).1
    obtain ⟨B7, o7, c7, e7, hB7, _, r7⟩ := p6.rr.ow.sl.at hy rfl
    have r72 := r7 2 _ rfl
    simp only [Nat.zero_mul, Nat.add_zero] at r72
    rw [e7] at cb6
    simp (maxSteps := 1000000) (disch := first | decide | omega | (simp only [go_sem]; first | done | omega)) only [go_sem, Int.reduceToNat, Nat.reduceMul, Nat.reduceAdd, Nat.reduceSub, ↓EU_region, ↓EU_draw, g8, cb6, hdm, bs, c6, r72, dt, g9, hwi]
    exact ⟨l.length - (i + 1), hmm, i + 1, _, h6b, _, _, _, _, _, _, rfl, rfl, hi1, by simp (maxSteps := 1000000) (disch := first | decide | omega | (simp only [go_sem]; first | done | omega)) only [go_sem, Int.reduceToNat, Nat.reduceMul, Nat.reduceAdd, Nat.reduceSub, ↓EU_region, ↓EU_draw, g1], by simp (maxSteps := 1000000) (disch := first | decide | omega | (simp only [go_sem]; first | done | omega)) only [go_sem, Int.reduceToNat, Nat.reduceMul, Nat.reduceAdd, Nat.reduceSub, ↓EU_region, ↓EU_draw, g2], by simp (maxSteps := 1000000) (disch := first | decide | omega | (simp only [go_sem]; first | done | omega)) only [go_sem, Int.reduceToNat, Nat.reduceMul, Nat.reduceAdd, Nat.reduceSub, ↓EU_region, ↓EU_draw, g7], by simp (maxSteps := 1000000) (disch := first | decide | omega | (simp only [go_sem]; first | done | omega)) only [go_sem, Int.reduceToNat, Nat.reduceMul, Nat.reduceAdd, Nat.reduceSub, ↓EU_region, ↓EU_draw, g8], by simp (maxSteps := 1000000) (disch := first | decide | omega | (simp only [go_sem]; first | done | omega)) only [go_sem, Int.reduceToNat, Nat.reduceMul, Nat.reduceAdd, Nat.reduceSub, ↓EU_region, ↓EU_draw], p6⟩
  | false =>
    obtain ⟨a6, c6', hv6⟩ := p6.rr.ow.val
    rw [hv6] at cb6
    simp (maxSteps := 1000000) (disch := first | decide | omega | (simp only [go_sem]; first | done | omega)) only [go_sem, Int.reduceToNat, Nat.reduceMul, Nat.reduceAdd, Nat.reduceSub, ↓EU_region, ↓EU_draw, g8, cb6, hdm, bs, g9, hwi]
    exact ⟨l.length - (i + 1), hmm, i + 1, _, h6b, _, _, _, _, _, _, rfl, rfl, hi1, by simp (maxSteps := 1000000) (disch := first | decide | omega | (simp only [go_sem]; first | done | omega)) only [go_sem, Int.reduceToNat, Nat.reduceMul, Nat.reduceAdd, Nat.reduceSub, ↓EU_region, ↓EU_draw, g1], by simp (maxSteps := 1000000) (disch := first | decide | omega | (simp only [go_sem]; first | done | omega)) only [go_sem, Int.reduceToNat, Nat.reduceMul, Nat.reduceAdd, Nat.reduceSub, ↓EU_region, ↓EU_draw, g2], by simp (maxSteps := 1000000) (disch := first | decide | omega | (simp only [go_sem]; first | done | omega)) only [go_sem, Int.reduceToNat, Nat.reduceMul, Nat.reduceAdd, Nat.reduceSub, ↓EU_region, ↓EU_draw, g7], by simp (maxSteps := 1000000) (disch := first | decide | omega | (simp only [go_sem]; first | done | omega)) only [go_sem, Int.reduceToNat, Nat.reduceMul, Nat.reduceAdd, Nat.reduceSub, ↓EU_region, ↓EU_draw, g8], by simp (maxSteps := 1000000) (disch := first | decide | omega | (simp only [go_sem]; first | done | omega)) only [go_sem, Int.reduceToNat, Nat.reduceMul, Nat.reduceAdd, Nat.reduceSub, ↓EU_region, ↓EU_draw], p6⟩
end Go.Proofs.Ytbbdhpjkibbnkaa.EV
