/- Due queues and the reference's rows, linked; the row's First; 'same'. No condition. -/
import Derived.Test.YtbbdhpjkibbnkaaDq5
import Derived.Test.YtbbdhpjkibbnkaaRw2
namespace Go.Proofs.Ytbbdhpjkibbnkaa.EV
open Go Go.Proofs
set_option linter.unusedVariables false
set_option linter.unusedSimpArgs false
set_option maxRecDepth 100000
set_option pp.deepTerms false
set_option pp.deepTerms.threshold 20
structure LD (W : List RI) (L : List QI) (du : Int → Int) : Prop where
  lk : LK W L
  dd : ∀ w ∈ W, w.due = du w.id
section
variable {W : List RI} {L L' : List QI} {du : Int → Int}
theorem LD.nil (du : Int → Int) : LD [] [] du := ⟨LK.nil, fun w h => by cases h⟩
theorem LD.whole (k : LD W L du) : wholeL du L = W := by
  unfold wholeL
  rw [k.lk.srt, List.map_map]
  have : W.map (ful du ∘ toQ) = W.map (fun x => x) := List.map_congr_left fun w hw => by
    have e := k.dd w hw
    show (⟨w.key, du w.id, w.id⟩ : RI) = w
    rw [← e]
  rw [this, List.map_id']
theorem LD.ins (k : LD W L du) {x : RI} {n : Nat} (hn : n ≤ W.length) (h1 : ∀ j y, j < n → W[j]? = some y → ltR y x) (h2 : ∀ y, W[n]? = some y → ¬ ltR y x) (p : L'.Perm (toQ x :: L)) (hno : ∀ (n : Nat) (y : RI), W[n]? = some y → y.id ≠ x.id) : LD (W.take n ++ x :: W.drop n) L' (updD du x.id x.due) := by
  refine ⟨k.lk.ins hn h1 h2 p, fun w hw => ?_⟩
  have hc : w = x ∨ w ∈ W := by
    rcases List.mem_append.1 hw with q | q
    · exact .inr (List.mem_of_mem_take q)
    · rcases List.mem_cons.1 q with q | q
      · exact .inl q
      · exact .inr (List.mem_of_mem_drop q)
  unfold updD
  rcases hc with rfl | q
  · rw [if_pos rfl]
  · obtain ⟨j, hj⟩ := List.getElem?_of_mem q
    rw [if_neg (hno j w hj)]
    exact k.dd w q
theorem LD.del (k : LD W L du) {x : RI} {n : Nat} (hx : W[n]? = some x) (p : L.Perm (toQ x :: L')) : LD (W.take n ++ W.drop (n + 1)) L' du := by
  refine ⟨k.lk.del hx p, fun w hw => ?_⟩
  rcases List.mem_append.1 hw with q | q
  · exact k.dd w (List.mem_of_mem_take q)
  · exact k.dd w (List.mem_of_mem_drop q)
theorem LD.at (k : LD W L du) {n : Nat} {y : RI} (hy : W[n]? = some y) {x : QI} (e : toQ y = x) : ful du x = y := by
  subst e
  have := k.dd y (List.mem_of_getElem? hy)
  show (⟨y.key, du y.id, y.id⟩ : RI) = y
  rw [← this]
end
set_option maxHeartbeats 4000000 in
theorem rfirst_ev {h : Heap} {b : Nat} {v : Value} {most0 : Int} {W : List RI} (q : RR h b v most0 W) (most : Int) (hl : W.length < 800000) :
    WPo (EF Try.prog O0 20 [ptr b 0, .int .i64 most] h) fun r => (∃ s, FSp most W s ∧ r.1 = .tuple ⟨[.agg ⟨rE s.1⟩, .bool s.2]⟩) ∧ Ext h r.2 := by
  rw [EF_body (O := O0) (by kernel_rfl) Try.func20 rfl (rs := [.cell 4 41, .tmp 5]) rfl (bad := []) (by kernel_rfl) _ _ (m := 99) rfl]
  have x1 : Ext h (h.push (.cells [.int .i64 0, .int .i64 0, .int .i64 0] 0)) := (Ext.refl h).push _
  have q1 := q.ext x1
  have g1 : (h.push (.cells [.int .i64 0, .int .i64 0, .int .i64 0] 0)).get h.next = .cells [.int .i64 0, .int .i64 0, .int .i64 0] 0 := get_push_new _ _
  have n1 : (h.push (.cells [.int .i64 0, .int .i64 0, .int .i64 0] 0)).next = h.next + 1 := next_push _ _
  have bl0 := q.bl
  obtain ⟨a, c, rfl⟩ := q.ow.val
  simp (maxSteps := 1000000) (disch := first | decide | omega | (simp only [go_sem]; first | done | omega)) only [go_sem, Int.reduceToNat, Nat.reduceMul, Nat.reduceAdd, Nat.reduceSub, ↓EU_region, ↓EU_draw]
  generalize h.push (.cells [.int .i64 0, .int .i64 0, .int .i64 0] 0) = h1 at *
  have cb := q1.cb
  have dt : ∀ x : Int, decide (x = x) = true := fun x => decide_eq_true rfl
  repeat refine WPo_ob ?_
  refine (LP_rule (fun m st => ∃ (i : Nat) (tm : Fr) (bst : Int), st = ⟨tm, h1, []⟩ ∧ m = W.length - i ∧ i ≤ W.length ∧ Fr.get tm 0 = ptr b 0 ∧ Fr.get tm 1 = .int .i64 most ∧ Fr.get tm 4 = ptr h.next 0 ∧ Fr.get tm 6 = .int .i64 bst ∧ Fr.get tm 7 = .int .i64 (i : Int) ∧ ((bst = -1 ∧ ∀ j y, j < i → W[j]? = some y → most < y.key) ∨ ∃ (n : Nat) (x : RI), bst = (n : Int) ∧ W[n]? = some x ∧ x.key ≤ most ∧ ∀ j y, j < i → W[j]? = some y → y.key ≤ most → ¬ ltD y x))
    (fun q => ∃ (tm : Fr) (bst : Int), q.2 = ⟨tm, h1, []⟩ ∧ q.1 = .exit 0 ∧ Fr.get tm 0 = ptr b 0 ∧ Fr.get tm 4 = ptr h.next 0 ∧ Fr.get tm 6 = .int .i64 bst ∧ ((bst = -1 ∧ ∀ y ∈ W, most < y.key) ∨ ∃ (n : Nat) (x : RI), bst = (n : Int) ∧ W[n]? = some x ∧ x.key ≤ most ∧ ∀ y ∈ W, y.key ≤ most → ¬ ltD y x)) ?_ W.length _ _ ?_ ?_).mono ?_
  · rintro m _ ⟨i, tm, bst, rfl, hm, hi, g0, gm, g4, g6, g7, hinv⟩
    by_cases hq : i < W.length
    · have hmm : W.length - (i + 1) < m := by omega
      have hi1 : i + 1 ≤ W.length := hq
      have d : decide ((i : Int) < (W.length : Int)) = true := decide_eq_true (by omega)
      obtain ⟨y, hy⟩ : ∃ y, W[i]? = some y := ⟨_, List.getElem?_eq_getElem hq⟩
      have hto : ∀ z, W[i]? = some z → z = y := fun z hz => by rw [hy] at hz; exact (Option.some.inj hz).symm
      have hwi : wrapF .i64 ((i : Int) + 1) = ((i + 1 : Nat) : Int) := by rw [wrap64 (by omega)]; rfl
      obtain ⟨B, o, c', e, _, _, r1⟩ := q1.ow.sl.at hy rfl
      cases e
      have r10 := r1 0 _ rfl
      have r11 := r1 1 _ rfl
      have r12 := r1 2 _ rfl
      rw [add_z] at r10
      by_cases hk : y.key ≤ most
      · have dk : decide (y.key ≤ most) = true := decide_eq_true hk
        rcases hinv with ⟨rfl, hall⟩ | ⟨n, x, rfl, hx, hxk, hall⟩
        · have dn : decide ((-1 : Int) < 0) = true := by decide
          simp (maxSteps := 1000000) (disch := first | decide | omega | (simp only [go_sem]; first | done | omega)) only [go_sem, Int.reduceToNat, Nat.reduceMul, Nat.reduceAdd, Nat.reduceSub, ↓EU_region, ↓EU_draw, g0, gm, g6, g7, cb, d, r10, dk, dn, hwi, List.append_eq, List.cons_append, List.nil_append]
          refine ⟨W.length - (i + 1), hmm, i + 1, _, (i : Int), rfl, rfl, hi1, by simp (maxSteps := 1000000) (disch := first | decide | omega | (simp only [go_sem]; first | done | omega)) only [go_sem, Int.reduceToNat, Nat.reduceMul, Nat.reduceAdd, Nat.reduceSub, ↓EU_region, ↓EU_draw, g0], by simp (maxSteps := 1000000) (disch := first | decide | omega | (simp only [go_sem]; first | done | omega)) only [go_sem, Int.reduceToNat, Nat.reduceMul, Nat.reduceAdd, Nat.reduceSub, ↓EU_region, ↓EU_draw, gm], by simp (maxSteps := 1000000) (disch := first | decide | omega | (simp only [go_sem]; first | done | omega)) only [go_sem, Int.reduceToNat, Nat.reduceMul, Nat.reduceAdd, Nat.reduceSub, ↓EU_region, ↓EU_draw, g4], by simp (maxSteps := 1000000) (disch := first | decide | omega | (simp only [go_sem]; first | done | omega)) only [go_sem, Int.reduceToNat, Nat.reduceMul, Nat.reduceAdd, Nat.reduceSub, ↓EU_region, ↓EU_draw], by simp (maxSteps := 1000000) (disch := first | decide | omega | (simp only [go_sem]; first | done | omega)) only [go_sem, Int.reduceToNat, Nat.reduceMul, Nat.reduceAdd, Nat.reduceSub, ↓EU_region, ↓EU_draw], .inr ⟨i, y, rfl, hy, hk, fun j z hj hz hzk => ?_⟩⟩
          by_cases e : j = i
          · subst e
            rw [hto z hz]; unfold ltD; omega
          · have := hall j z (by omega) hz; omega
        · have dn : decide ((n : Int) < 0) = false := decide_eq_false (by omega)
          have hnl := (List.getElem?_eq_some_iff.1 hx).1
          obtain ⟨B2, o2, c2', e, _, _, r2⟩ := q1.ow.sl.at hx rfl
          cases e
          have r21 := r2 1 _ rfl
          have r22 := r2 2 _ rfl
          have better : ltD y x → ∀ j z, j < i + 1 → W[j]? = some z → z.key ≤ most → ¬ ltD z y := fun hl j z hj hz hzk => by
            by_cases e : j = i
            · subst e
              rw [hto z hz]; unfold ltD; omega
            · have := hall j z (by omega) hz hzk
              unfold ltD at *
              omega
          have worse : ¬ ltD y x → ∀ j z, j < i + 1 → W[j]? = some z → z.key ≤ most → ¬ ltD z x := fun hl j z hj hz hzk => by
            by_cases e : j = i
            · subst e
              rw [hto z hz]; exact hl
            · exact hall j z (by omega) hz hzk
          by_cases hd1 : y.due < x.due
          · have dd : decide (y.due < x.due) = true := decide_eq_true hd1
            simp (maxSteps := 1000000) (disch := first | decide | omega | (simp only [go_sem]; first | done | omega)) only [go_sem, Int.reduceToNat, Nat.reduceMul, Nat.reduceAdd, Nat.reduceSub, ↓EU_region, ↓EU_draw, g0, gm, g6, g7, cb, d, r10, r11, r21, dk, dn, dd, hwi, List.append_eq, List.cons_append, List.nil_append]
            exact ⟨W.length - (i + 1), hmm, i + 1, _, (i : Int), rfl, rfl, hi1, by simp (maxSteps := 1000000) (disch := first | decide | omega | (simp only [go_sem]; first | done | omega)) only [go_sem, Int.reduceToNat, Nat.reduceMul, Nat.reduceAdd, Nat.reduceSub, ↓EU_region, ↓EU_draw, g0], by simp (maxSteps := 1000000) (disch := first | decide | omega | (simp only [go_sem]; first | done | omega)) only [go_sem, Int.reduceToNat, Nat.reduceMul, Nat.reduceAdd, Nat.reduceSub, ↓EU_region, ↓EU_draw, gm], by simp (maxSteps := 1000000) (disch := first | decide | omega | (simp only [go_sem]; first | done | omega)) only [go_sem, Int.reduceToNat, Nat.reduceMul, Nat.reduceAdd, Nat.reduceSub, ↓EU_region, ↓EU_draw, g4], by simp (maxSteps := 1000000) (disch := first | decide | omega | (simp only [go_sem]; first | done | omega)) only [go_sem, Int.reduceToNat, Nat.reduceMul, Nat.reduceAdd, Nat.reduceSub, ↓EU_region, ↓EU_draw], by simp (maxSteps := 1000000) (disch := first | decide | omega | (simp only [go_sem]; first | done | omega)) only [go_sem, Int.reduceToNat, Nat.reduceMul, Nat.reduceAdd, Nat.reduceSub, ↓EU_region, ↓EU_draw], .inr ⟨i, y, rfl, hy, hk, better (.inl hd1)⟩⟩
          · have dd : decide (y.due < x.due) = false := decide_eq_false hd1
            by_cases hd2 : y.due = x.due
            · have de : decide (y.due = x.due) = true := decide_eq_true hd2
              by_cases hd3 : y.id < x.id
              · have df : decide (y.id < x.id) = true := decide_eq_true hd3
                simp (maxSteps := 1000000) (disch := first | decide | omega | (simp only [go_sem]; first | done | omega)) only [go_sem, Int.reduceToNat, Nat.reduceMul, Nat.reduceAdd, Nat.reduceSub, ↓EU_region, ↓EU_draw, g0, gm, g6, g7, cb, d, r10, r11, r12, r21, r22, dk, dn, dd, de, df, hwi, List.append_eq, List.cons_append, List.nil_append]
                exact ⟨W.length - (i + 1), hmm, i + 1, _, (i : Int), rfl, rfl, hi1, by simp (maxSteps := 1000000) (disch := first | decide | omega | (simp only [go_sem]; first | done | omega)) only [go_sem, Int.reduceToNat, Nat.reduceMul, Nat.reduceAdd, Nat.reduceSub, ↓EU_region, ↓EU_draw, g0], by simp (maxSteps := 1000000) (disch := first | decide | omega | (simp only [go_sem]; first | done | omega)) only [go_sem, Int.reduceToNat, Nat.reduceMul, Nat.reduceAdd, Nat.reduceSub, ↓EU_region, ↓EU_draw, gm], by simp (maxSteps := 1000000) (disch := first | decide | omega | (simp only [go_sem]; first | done | omega)) only [go_sem, Int.reduceToNat, Nat.reduceMul, Nat.reduceAdd, Nat.reduceSub, ↓EU_region, ↓EU_draw, g4], by simp (maxSteps := 1000000) (disch := first | decide | omega | (simp only [go_sem]; first | done | omega)) only [go_sem, Int.reduceToNat, Nat.reduceMul, Nat.reduceAdd, Nat.reduceSub, ↓EU_region, ↓EU_draw], by simp (maxSteps := 1000000) (disch := first | decide | omega | (simp only [go_sem]; first | done | omega)) only [go_sem, Int.reduceToNat, Nat.reduceMul, Nat.reduceAdd, Nat.reduceSub, ↓EU_region, ↓EU_draw], .inr ⟨i, y, rfl, hy, hk, better (.inr ⟨hd2, hd3⟩)⟩⟩
              · have df : decide (y.id < x.id) = false := decide_eq_false hd3
                simp (maxSteps := 1000000) (disch := first | decide | omega | (simp only [go_sem]; first | done | omega)) only [go_sem, Int.reduceToNat, Nat.reduceMul, Nat.reduceAdd, Nat.reduceSub, ↓EU_region, ↓EU_draw, g0, gm, g6, g7, cb, d, r10, r11, r12, r21, r22, dk, dn, dd, de, df, hwi, List.append_eq, List.cons_append, List.nil_append]
                exact ⟨W.length - (i + 1), hmm, i + 1, _, (n : Int), rfl, rfl, hi1, by simp (maxSteps := 1000000) (disch := first | decide | omega | (simp only [go_sem]; first | done | omega)) only [go_sem, Int.reduceToNat, Nat.reduceMul, Nat.reduceAdd, Nat.reduceSub, ↓EU_region, ↓EU_draw, g0], by simp (maxSteps := 1000000) (disch := first | decide | omega | (simp only [go_sem]; first | done | omega)) only [go_sem, Int.reduceToNat, Nat.reduceMul, Nat.reduceAdd, Nat.reduceSub, ↓EU_region, ↓EU_draw, gm], by simp (maxSteps := 1000000) (disch := first | decide | omega | (simp only [go_sem]; first | done | omega)) only [go_sem, Int.reduceToNat, Nat.reduceMul, Nat.reduceAdd, Nat.reduceSub, ↓EU_region, ↓EU_draw, g4], by simp (maxSteps := 1000000) (disch := first | decide | omega | (simp only [go_sem]; first | done | omega)) only [go_sem, Int.reduceToNat, Nat.reduceMul, Nat.reduceAdd, Nat.reduceSub, ↓EU_region, ↓EU_draw, g6], by simp (maxSteps := 1000000) (disch := first | decide | omega | (simp only [go_sem]; first | done | omega)) only [go_sem, Int.reduceToNat, Nat.reduceMul, Nat.reduceAdd, Nat.reduceSub, ↓EU_region, ↓EU_draw], .inr ⟨n, x, rfl, hx, hxk, worse (by unfold ltD; omega)⟩⟩
            · have de : decide (y.due = x.due) = false := decide_eq_false hd2
              simp (maxSteps := 1000000) (disch := first | decide | omega | (simp only [go_sem]; first | done | omega)) only [go_sem, Int.reduceToNat, Nat.reduceMul, Nat.reduceAdd, Nat.reduceSub, ↓EU_region, ↓EU_draw, g0, gm, g6, g7, cb, d, r10, r11, r21, dk, dn, dd, de, hwi, List.append_eq, List.cons_append, List.nil_append]
              exact ⟨W.length - (i + 1), hmm, i + 1, _, (n : Int), rfl, rfl, hi1, by simp (maxSteps := 1000000) (disch := first | decide | omega | (simp only [go_sem]; first | done | omega)) only [go_sem, Int.reduceToNat, Nat.reduceMul, Nat.reduceAdd, Nat.reduceSub, ↓EU_region, ↓EU_draw, g0], by simp (maxSteps := 1000000) (disch := first | decide | omega | (simp only [go_sem]; first | done | omega)) only [go_sem, Int.reduceToNat, Nat.reduceMul, Nat.reduceAdd, Nat.reduceSub, ↓EU_region, ↓EU_draw, gm], by simp (maxSteps := 1000000) (disch := first | decide | omega | (simp only [go_sem]; first | done | omega)) only [go_sem, Int.reduceToNat, Nat.reduceMul, Nat.reduceAdd, Nat.reduceSub, ↓EU_region, ↓EU_draw, g4], by simp (maxSteps := 1000000) (disch := first | decide | omega | (simp only [go_sem]; first | done | omega)) only [go_sem, Int.reduceToNat, Nat.reduceMul, Nat.reduceAdd, Nat.reduceSub, ↓EU_region, ↓EU_draw, g6], by simp (maxSteps := 1000000) (disch := first | decide | omega | (simp only [go_sem]; first | done | omega)) only [go_sem, Int.reduceToNat, Nat.reduceMul, Nat.reduceAdd, Nat.reduceSub, ↓EU_region, ↓EU_draw], .inr ⟨n, x, rfl, hx, hxk, worse (by unfold ltD; omega)⟩⟩
      · have dk : decide (y.key ≤ most) = false := decide_eq_false hk
        simp (maxSteps := 1000000) (disch := first | decide | omega | (simp only [go_sem]; first | done | omega)) only [go_sem, Int.reduceToNat, Nat.reduceMul, Nat.reduceAdd, Nat.reduceSub, ↓EU_region, ↓EU_draw, g0, gm, g6, g7, cb, d, r10, dk, hwi, List.append_eq, List.cons_append, List.nil_append]
        refine ⟨W.length - (i + 1), hmm, i + 1, _, bst, rfl, rfl, hi1, by simp (maxSteps := 1000000) (disch := first | decide | omega | (simp only [go_sem]; first | done | omega)) only [go_sem, Int.reduceToNat, Nat.reduceMul, Nat.reduceAdd, Nat.reduceSub, ↓EU_region, ↓EU_draw, g0], by simp (maxSteps := 1000000) (disch := first | decide | omega | (simp only [go_sem]; first | done | omega)) only [go_sem, Int.reduceToNat, Nat.reduceMul, Nat.reduceAdd, Nat.reduceSub, ↓EU_region, ↓EU_draw, gm], by simp (maxSteps := 1000000) (disch := first | decide | omega | (simp only [go_sem]; first | done | omega)) only [go_sem, Int.reduceToNat, Nat.reduceMul, Nat.reduceAdd, Nat.reduceSub, ↓EU_region, ↓EU_draw, g4], by simp (maxSteps := 1000000) (disch := first | decide | omega | (simp only [go_sem]; first | done | omega)) only [go_sem, Int.reduceToNat, Nat.reduceMul, Nat.reduceAdd, Nat.reduceSub, ↓EU_region, ↓EU_draw, g6], by simp (maxSteps := 1000000) (disch := first | decide | omega | (simp only [go_sem]; first | done | omega)) only [go_sem, Int.reduceToNat, Nat.reduceMul, Nat.reduceAdd, Nat.reduceSub, ↓EU_region, ↓EU_draw], ?_⟩
        rcases hinv with ⟨rfl, hall⟩ | ⟨n, x, rfl, hx, hxk, hall⟩
        · refine .inl ⟨rfl, fun j z hj hz => ?_⟩
          by_cases e : j = i
          · subst e
            rw [hto z hz]; omega
          · exact hall j z (by omega) hz
        · refine .inr ⟨n, x, rfl, hx, hxk, fun j z hj hz hzk => ?_⟩
          by_cases e : j = i
          · subst e
            rw [hto z hz] at hzk; omega
          · exact hall j z (by omega) hz hzk
    · have d : decide ((i : Int) < (W.length : Int)) = false := decide_eq_false (by omega)
      have : i = W.length := by omega
      subst this
      simp (maxSteps := 1000000) (disch := first | decide | omega | (simp only [go_sem]; first | done | omega)) only [go_sem, Int.reduceToNat, Nat.reduceMul, Nat.reduceAdd, Nat.reduceSub, ↓EU_region, ↓EU_draw, g0, g7, cb, d]
      refine ⟨_, bst, rfl, trivial, by simp (maxSteps := 1000000) (disch := first | decide | omega | (simp only [go_sem]; first | done | omega)) only [go_sem, Int.reduceToNat, Nat.reduceMul, Nat.reduceAdd, Nat.reduceSub, ↓EU_region, ↓EU_draw, g0], by simp (maxSteps := 1000000) (disch := first | decide | omega | (simp only [go_sem]; first | done | omega)) only [go_sem, Int.reduceToNat, Nat.reduceMul, Nat.reduceAdd, Nat.reduceSub, ↓EU_region, ↓EU_draw, g4], by simp (maxSteps := 1000000) (disch := first | decide | omega | (simp only [go_sem]; first | done | omega)) only [go_sem, Int.reduceToNat, Nat.reduceMul, Nat.reduceAdd, Nat.reduceSub, ↓EU_region, ↓EU_draw, g6], ?_⟩
      rcases hinv with ⟨rfl, hall⟩ | ⟨n, x, rfl, hx, hxk, hall⟩
      · refine .inl ⟨rfl, fun y hy => ?_⟩
        obtain ⟨j, hj⟩ := List.getElem?_of_mem hy
        exact hall j y (List.getElem?_eq_some_iff.1 hj).1 hj
      · refine .inr ⟨n, x, rfl, hx, hxk, fun y hy hyk => ?_⟩
        obtain ⟨j, hj⟩ := List.getElem?_of_mem hy
        exact hall j y (List.getElem?_eq_some_iff.1 hj).1 hj hyk
  · exact ⟨0, _, -1, rfl, rfl, by omega, by simp (maxSteps := 1000000) (disch := first | decide | omega | (simp only [go_sem]; first | done | omega)) only [go_sem, Int.reduceToNat, Nat.reduceMul, Nat.reduceAdd, Nat.reduceSub, ↓EU_region, ↓EU_draw], by simp (maxSteps := 1000000) (disch := first | decide | omega | (simp only [go_sem]; first | done | omega)) only [go_sem, Int.reduceToNat, Nat.reduceMul, Nat.reduceAdd, Nat.reduceSub, ↓EU_region, ↓EU_draw], by simp (maxSteps := 1000000) (disch := first | decide | omega | (simp only [go_sem]; first | done | omega)) only [go_sem, Int.reduceToNat, Nat.reduceMul, Nat.reduceAdd, Nat.reduceSub, ↓EU_region, ↓EU_draw], by simp (maxSteps := 1000000) (disch := first | decide | omega | (simp only [go_sem]; first | done | omega)) only [go_sem, Int.reduceToNat, Nat.reduceMul, Nat.reduceAdd, Nat.reduceSub, ↓EU_region, ↓EU_draw], by simp (maxSteps := 1000000) (disch := first | decide | omega | (simp only [go_sem]; first | done | omega)) only [go_sem, Int.reduceToNat, Nat.reduceMul, Nat.reduceAdd, Nat.reduceSub, ↓EU_region, ↓EU_draw]; rfl, .inl ⟨rfl, fun j y hj => by omega⟩⟩
  · omega
  rintro ⟨_, _⟩ ⟨tm, bst, rfl, rfl, g0, g4, g6, hinv⟩
  rcases hinv with ⟨rfl, hall⟩ | ⟨n, x, rfl, hx, hxk, hall⟩
  · have dn : decide ((-1 : Int) < 0) = true := by decide
    simp (maxSteps := 1000000) (disch := first | decide | omega | (simp only [go_sem]; first | done | omega)) only [go_sem, Int.reduceToNat, Nat.reduceMul, Nat.reduceAdd, Nat.reduceSub, ↓EU_region, ↓EU_draw, g4, g6, g1, dn]
    exact ⟨⟨(⟨0, 0, 0⟩, false), ⟨fun _ => ⟨rfl, hall⟩, fun e => (by cases e)⟩, rfl⟩, x1.set _ _ (Nat.le_refl _)⟩
  · have dn : decide ((n : Int) < 0) = false := decide_eq_false (by omega)
    have hnl := (List.getElem?_eq_some_iff.1 hx).1
    obtain ⟨B2, o2, c2', e, _, r2, _⟩ := q1.ow.sl.at hx rfl
    cases e
    unfold rE at r2
    simp (maxSteps := 1000000) (disch := first | decide | omega | (simp only [go_sem]; first | done | omega)) only [go_sem, Int.reduceToNat, Nat.reduceMul, Nat.reduceAdd, Nat.reduceSub, ↓EU_region, ↓EU_draw, g0, g4, g6, g1, cb, dn, r2]
    exact ⟨⟨(x, true), ⟨fun e => (by cases e), fun _ => ⟨List.mem_of_getElem? hx, hxk, hall⟩⟩, rfl⟩, x1.set _ _ (Nat.le_refl _)⟩
set_option maxHeartbeats 2000000 in
theorem same5_ev (l : List RI) (v w : Value) (h : Heap) (hv : SL rE 3 h v l) (hw : SL rE 3 h w l) (hl : l.length < 800000) :
    EF Try.prog O0 17 [v, w] h = some (.bool true, h) := by
  have : WPo (EF Try.prog O0 17 [v, w] h) fun r => r = (.bool true, h) := by
    rw [EF_body (O := O0) (by kernel_rfl) Try.func17 rfl (rs := [.tmp 4]) rfl (bad := []) (by kernel_rfl) _ _ (m := 54) rfl]
    obtain ⟨a, c, rfl⟩ := hv.val
    obtain ⟨a2, c2, rfl⟩ := hw.val
    have dt : ∀ x : Int, decide (x = x) = true := fun x => decide_eq_true rfl
    simp (maxSteps := 1000000) (disch := first | decide | omega | (simp only [go_sem]; first | done | omega)) only [go_sem, Int.reduceToNat, Nat.reduceMul, Nat.reduceAdd, Nat.reduceSub, ↓EU_region, ↓EU_draw, dec_t, dec_f, dt]
    repeat refine WPo_ob ?_
    refine (LP_rule (fun k st => ∃ (i : Nat) (tm : Fr), st = ⟨tm, h, []⟩ ∧ k = l.length - i ∧ i ≤ l.length ∧ Fr.get tm 0 = .slice a l.length c ∧ Fr.get tm 1 = .slice a2 l.length c2 ∧ Fr.get tm 5 = .int .i64 (i : Int))
      (fun q => ∃ tm, q.2 = ⟨tm, h, []⟩ ∧ q.1 = .exit 0) ?_ l.length _ _ ?_ ?_).mono ?_
    · rintro k _ ⟨i, tm, rfl, hk, hi, g0, g1, g5⟩
      by_cases hq : i < l.length
      · have d : decide ((i : Int) < (l.length : Int)) = true := decide_eq_true (by omega)
        obtain ⟨x, hx⟩ : ∃ x, l[i]? = some x := ⟨_, List.getElem?_eq_getElem hq⟩
        have hwi : wrapF .i64 ((i : Int) + 1) = ((i + 1 : Nat) : Int) := by rw [wrap64 (by omega)]; rfl
        obtain ⟨B, o, c', e, _, _, r1⟩ := hv.at hx rfl
        cases e
        obtain ⟨B2, o2, c2', e, _, _, r2⟩ := hw.at hx rfl
        cases e
        have r10 := r1 0 _ rfl
        have r11 := r1 1 _ rfl
        have r12 := r1 2 _ rfl
        have r20 := r2 0 _ rfl
        have r21 := r2 1 _ rfl
        have r22 := r2 2 _ rfl
        rw [add_z] at r10 r20
        simp (maxSteps := 1000000) (disch := first | decide | omega | (simp only [go_sem]; first | done | omega)) only [go_sem, Int.reduceToNat, Nat.reduceMul, Nat.reduceAdd, Nat.reduceSub, ↓EU_region, ↓EU_draw, dec_t, dec_f, g0, g1, g5, d, r10, r11, r12, r20, r21, r22, dt, hwi]
        exact ⟨_, by omega, i + 1, _, rfl, rfl, by omega, by simp (maxSteps := 1000000) (disch := first | decide | omega | (simp only [go_sem]; first | done | omega)) only [go_sem, Int.reduceToNat, Nat.reduceMul, Nat.reduceAdd, Nat.reduceSub, ↓EU_region, ↓EU_draw, g0], by simp (maxSteps := 1000000) (disch := first | decide | omega | (simp only [go_sem]; first | done | omega)) only [go_sem, Int.reduceToNat, Nat.reduceMul, Nat.reduceAdd, Nat.reduceSub, ↓EU_region, ↓EU_draw, g1], by simp (maxSteps := 1000000) (disch := first | decide | omega | (simp only [go_sem]; first | done | omega)) only [go_sem, Int.reduceToNat, Nat.reduceMul, Nat.reduceAdd, Nat.reduceSub, ↓EU_region, ↓EU_draw]⟩
      · have d : decide ((i : Int) < (l.length : Int)) = false := decide_eq_false (by omega)
        simp (maxSteps := 1000000) (disch := first | decide | omega | (simp only [go_sem]; first | done | omega)) only [go_sem, Int.reduceToNat, Nat.reduceMul, Nat.reduceAdd, Nat.reduceSub, ↓EU_region, ↓EU_draw, g0, g1, g5, d]
        exact ⟨_, rfl, trivial⟩
    · exact ⟨0, _, rfl, rfl, by omega, by simp (maxSteps := 1000000) (disch := first | decide | omega | (simp only [go_sem]; first | done | omega)) only [go_sem, Int.reduceToNat, Nat.reduceMul, Nat.reduceAdd, Nat.reduceSub, ↓EU_region, ↓EU_draw], by simp (maxSteps := 1000000) (disch := first | decide | omega | (simp only [go_sem]; first | done | omega)) only [go_sem, Int.reduceToNat, Nat.reduceMul, Nat.reduceAdd, Nat.reduceSub, ↓EU_region, ↓EU_draw], by simp (maxSteps := 1000000) (disch := first | decide | omega | (simp only [go_sem]; first | done | omega)) only [go_sem, Int.reduceToNat, Nat.reduceMul, Nat.reduceAdd, Nat.reduceSub, ↓EU_region, ↓EU_draw]; rfl⟩
    · omega
    · rintro ⟨_, _⟩ ⟨tm, rfl, rfl⟩
      simp (maxSteps := 1000000) (disch := first | decide | omega | (simp only [go_sem]; first | done | omega)) only [go_sem, Int.reduceToNat, Nat.reduceMul, Nat.reduceAdd, Nat.reduceSub, ↓EU_region, ↓EU_draw]
  obtain ⟨q, e, rfl⟩ := this
  exact e
end Go.Proofs.Ytbbdhpjkibbnkaa.EV
