/- Contracts: owed.Find, check.Form. No condition. -/
import Derived.Test.YtddgcakiceodgaaGreatOwed2
namespace Go.Proofs.YtddgcakiceodgaaGreat.EV
open Go Go.Proofs
set_option linter.unusedVariables false
set_option linter.unusedSimpArgs false
set_option maxRecDepth 100000
set_option pp.deepTerms false
set_option pp.deepTerms.threshold 20
theorem idx_any {α : Type} {p : α → Bool} {l : List α} (h : l.any p = true) : ∃ (i : Nat) (x : α), idx p l = i ∧ l[i]? = some x ∧ l.find? p = some x := by
  unfold idx
  cases hf : l.findIdx? p with
  | none =>
    rw [List.findIdx?_eq_none_iff] at hf
    obtain ⟨x, hx, hp⟩ := List.any_eq_true.1 h
    rw [hf x hx] at hp; cases hp
  | some i =>
    obtain ⟨h1, h2, h3⟩ := List.findIdx?_eq_some_iff_getElem.1 hf
    exact ⟨i, l[i], rfl, List.getElem?_eq_getElem h1, by
      rw [List.find?_eq_some_iff_getElem]
      exact ⟨h2, i, h1, rfl, fun j hj => by simpa using h3 j hj⟩⟩
theorem find_none {α : Type} {p : α → Bool} {l : List α} (h : l.any p = false) : l.find? p = none := by
  rw [List.find?_eq_none]
  intro x hx
  have := List.any_eq_false.1 h x hx
  simpa using this
/-- the item found, or none -/
noncomputable def fndR (id : Int) (l : List Item) : Item := (l.find? (byId id)).getD ⟨0, 0, 0⟩
theorem ofind_ev (cur : Int) (l : List Item) (s : Value) (id : Int) (h : Heap) (hs : SL itemE 3 h s l) (hl : l.length < 900000) :
    Pu (EF Tryz.prog O0 85 [formV cur s, .int .i64 id] h) h (.tuple ⟨[.agg ⟨itemE (fndR id l)⟩, .bool (l.any (byId id))]⟩) := by
  unfold Pu formV
  rw [EF_body (O := O0) (by kernel_rfl) Tryz.func85 rfl (rs := [.cell 4 43, .tmp 5]) rfl (bad := []) (by kernel_rfl) _ _ (m := 18) rfl]
  obtain ⟨a, c, hv⟩ := hs.val
  subst hv
  simp (maxSteps := 1000000) (disch := first | decide | omega | (simp only [go_sem]; first | done | omega)) only [go_sem, Int.reduceToNat, Nat.reduceMul, Nat.reduceAdd, Nat.reduceSub, ↓EU_region, ↓EU_draw]
  repeat refine WPo_ob ?_
  refine (find_ev cur l _ id _ (hs.ext (((Ext.refl h).push _).push _)) hl).mono ?_
  rintro ⟨v, h1⟩ ⟨rfl, x1⟩
  simp only at x1
  have y1 : Ext h h1 := (((Ext.refl h).push _).push _).trans x1
  have hn1 := x1.le
  simp only [next_push] at hn1
  have c0 : h1.get h.next = .cells [.int .i64 cur, .slice a l.length c] 0 := by simp (maxSteps := 1000000) (disch := first | decide | omega | (simp only [go_sem]; first | done | omega)) only [go_sem, Int.reduceToNat, Nat.reduceMul, Nat.reduceAdd, Nat.reduceSub, ↓EU_region, ↓EU_draw, x1.old]
  have c1 : h1.get (h.next + 1) = .cells [.int .i64 0, .int .i64 0, .int .i64 0] 0 := by simp (maxSteps := 1000000) (disch := first | decide | omega | (simp only [go_sem]; first | done | omega)) only [go_sem, Int.reduceToNat, Nat.reduceMul, Nat.reduceAdd, Nat.reduceSub, ↓EU_region, ↓EU_draw, x1.old]
  cases q : l.any (byId id) with
  | true =>
    obtain ⟨i, x, e1, e2, e3⟩ := idx_any q
    have hx : fndR id l = x := by unfold fndR; rw [e3]; rfl
    rw [e1, hx]
    obtain ⟨b, o, c', e, hb', hrd, hr⟩ := (hs.ext y1).at e2 rfl
    cases e
    have hn : decide ((i : Int) < 0) = false := decide_eq_false (by omega)
    have hil := (List.getElem?_eq_some_iff.1 e2).1
    simp (maxSteps := 1000000) (disch := first | decide | omega | (simp only [go_sem]; first | done | omega)) only [go_sem, Int.reduceToNat, Nat.reduceMul, Nat.reduceAdd, Nat.reduceSub, ↓EU_region, ↓EU_draw, dec_t, dec_f, hn, c0, c1, hrd]
    exact ⟨trivial, y1.set _ _ (by omega)⟩
  | false =>
    have hx : fndR id l = ⟨0, 0, 0⟩ := by unfold fndR; rw [find_none q]; rfl
    rw [hx]
    have hn : decide (idx (byId id) l < 0) = true := by rw [idx_neg, q]; rfl
    simp (maxSteps := 1000000) (disch := first | decide | omega | (simp only [go_sem]; first | done | omega)) only [go_sem, Int.reduceToNat, Nat.reduceMul, Nat.reduceAdd, Nat.reduceSub, ↓EU_region, ↓EU_draw, dec_t, dec_f, hn, c0, c1]
    exact ⟨rfl, y1.set _ _ (by omega)⟩

structure Flt where
  kind : Int
  id : Int
deriving DecidableEq
noncomputable def fltE (f : Flt) : List Value := [.int .i64 f.kind, .int .i64 f.id]
@[go_sem] theorem fltE_len (x : Flt) : (fltE x).length = 2 := (rfl)
@[go_sem] theorem fltE_scal (x : Flt) : (fltE x).all scal = true := (rfl)
noncomputable def chkE (c : Int × Bool) : List Value := [.int .i64 c.1, .bool c.2]
@[go_sem] theorem chkE_len (x : Int × Bool) : (chkE x).length = 2 := (rfl)
@[go_sem] theorem chkE_scal (x : Int × Bool) : (chkE x).all scal = true := (rfl)
noncomputable def flts (id : Int) (cs : List (Int × Bool)) : List Flt := (cs.filter (·.2)).map fun c => ⟨c.1, id⟩
noncomputable def lagBad (x : Item) : Bool := decide (x.lag < -1125899906842624) || decide (1125899906842624 < x.lag)
noncomputable def idBad (x : Item) : Bool := decide (x.id < 0) || decide (1073741824 < x.id)
noncomputable def ordBad (p : Option Item) (x : Item) : Bool := match p with
  | none => false
  | some y => decide (x.id ≤ y.id)
noncomputable def chks (p : Option Item) (x : Item) : List (Int × Bool) := [(1, idBad x), (2, ordBad p x), (3, !wgood x.w), (4, lagBad x)]
noncomputable def fGo : Option Item → List Item → List Flt
  | _, [] => []
  | p, x :: l => flts x.id (chks p x) ++ fGo (some x) l
noncomputable def neg (x : Item) : Bool := decide (x.lag < 0)
/-- one fault laid behind, if so -/
noncomputable def ifF (b : Bool) (f : Flt) : List Flt := if b then [f] else []
theorem ifF_len (b : Bool) (f : Flt) : (ifF b f).length ≤ 1 := by unfold ifF; split <;> simp
theorem ifF_t (f : Flt) : ifF true f = [f] := rfl
theorem ifF_f (f : Flt) : ifF false f = [] := rfl
noncomputable def formF (cur : Int) (l : List Item) : List Flt := ((fGo none l ++ ifF (decide (64 < (l.length : Int))) ⟨5, l.length⟩) ++ ifF (!l.any (byId cur) && !decide (cur = -1)) ⟨6, cur⟩) ++ ifF (decide ((l.length : Int) > 0) && l.all neg) ⟨7, -1⟩
theorem flts_len (id : Int) (cs : List (Int × Bool)) : (flts id cs).length ≤ cs.length := by
  unfold flts
  rw [List.length_map]
  exact List.length_filter_le _ _
theorem fGo_len : ∀ (p : Option Item) (l : List Item), (fGo p l).length ≤ 4 * l.length
  | _, [] => Nat.zero_le _
  | p, x :: l => by
    have h1 := flts_len x.id (chks p x)
    have h2 := fGo_len (some x) l
    have h3 : (chks p x).length = 4 := rfl
    simp only [fGo, List.length_append, List.length_cons]
    omega
theorem formF_len (cur : Int) (l : List Item) : (formF cur l).length ≤ 4 * l.length + 3 := by
  have := fGo_len none l
  have h1 := ifF_len (decide (64 < (l.length : Int))) ⟨5, l.length⟩
  have h2 := ifF_len (!l.any (byId cur) && !decide (cur = -1)) ⟨6, cur⟩
  have h3 := ifF_len (decide ((l.length : Int) > 0) && l.all neg) ⟨7, -1⟩
  unfold formF
  simp only [List.length_append]
  omega
theorem Fresh.gr {s v : Value} {a b : Heap} (g : Gr s a v b) (hs : ∀ i, ¬ blkOf s i) : Fresh a.next v := g.fresh (fun i hi => (hs i hi).elim) (Nat.le_refl _)
theorem nil_blk (n m : Nat) (i : Nat) : ¬ blkOf (.slice none n m) i := fun h => h.elim
set_option maxHeartbeats 1000000 in
theorem form_ev (cur : Int) (l : List Item) (s : Value) (h : Heap) (hs : SL itemE 3 h s l) (hl : l.length < 900000) :
    WPo (EF Tryz.prog O0 84 [formV cur s] h) fun q => OW fltE 2 q.2 q.1 (formF cur l) ∧ Fresh h.next q.1 ∧ Ext h q.2 := by
  rw [EF_body (O := O0) (by kernel_rfl) Tryz.func84 rfl (rs := [.tmp 2]) rfl (bad := [6]) (by kernel_rfl) _ _ (m := 123) rfl]
  obtain ⟨a, c, hv⟩ := hs.val
  subst hv
  unfold formV
  simp (maxSteps := 1000000) (disch := first | decide | omega | (simp only [go_sem]; first | done | omega)) only [go_sem, Int.reduceToNat, Nat.reduceMul, Nat.reduceAdd, Nat.reduceSub, ↓EU_region, ↓EU_draw]
  repeat refine WPo_ob ?_
  generalize hh0 : h.push (.cells [.int .i64 cur, .slice a l.length c] 0) = h0
  have x0 : Ext h h0 := by rw [← hh0]; exact (Ext.refl h).push _
  have hF0 : h0.get h.next = .cells [.int .i64 cur, .slice a l.length c] 0 := by rw [← hh0]; exact get_push_new _ _
  have hn0 : h0.next = h.next + 1 := by rw [← hh0]; exact next_push _ _
  clear hh0
  refine (LP_rule (fun m st => ∃ (i : Nat) (tm : Fr) (h2 : Heap) (u : Value) (acc : List Flt), st = ⟨tm, h2, []⟩ ∧ m = l.length - i ∧ i ≤ l.length ∧ Fr.get tm 1 = ptr h.next 0 ∧ Fr.get tm 3 = u ∧ Fr.get tm 4 = .bool (decide ((l.length : Int) > 0) && (l.take i).all neg) ∧ Fr.get tm 16 = .slice a l.length c ∧ Fr.get tm 17 = .int .i64 l.length ∧ Fr.get tm 18 = .int .i64 i ∧ OW fltE 2 h2 u acc ∧ Gr (.slice none 0 1) h0 u h2 ∧ acc.length ≤ 4 * i ∧ fGo none l = acc ++ fGo (prevAt l i) (l.drop i))
    (fun q => ∃ tm h2 u, q.2 = ⟨tm, h2, []⟩ ∧ q.1 = .exit 0 ∧ Fr.get tm 1 = ptr h.next 0 ∧ Fr.get tm 3 = u ∧ Fr.get tm 4 = .bool (decide ((l.length : Int) > 0) && l.all neg) ∧ OW fltE 2 h2 u (fGo none l) ∧ Gr (.slice none 0 1) h0 u h2) ?_ l.length _ _ ?_ ?_).mono ?_
  · rintro m _ ⟨i, tm, h2, u, acc, rfl, rfl, hi, g1, g3, g4, g16, g17, g18, hov, gr, hal, hgo⟩
    have hfv : Fresh (h.next + 1) u := by rw [← hn0]; exact Fresh.gr gr (nil_blk _ _)
    have x2 : Ext h h2 := x0.trans (gr.ext0 (Ext.refl _) (Fresh.nil _ _ _))
    have hF : h2.get h.next = .cells [.int .i64 cur, .slice a l.length c] 0 := (gr.old _ (by omega) (nil_blk _ _ _)).trans hF0
    have hn2 : h.next < h2.next := by have := gr.le; omega
    obtain ⟨av, kv, rfl⟩ := hov.val
    simp (maxSteps := 1000000) (disch := first | decide | omega | (simp only [go_sem]; first | done | omega)) only [go_sem, Int.reduceToNat, Nat.reduceMul, Nat.reduceAdd, Nat.reduceSub, g1, g3, g4, g16, g17, g18]
    (first | rw [EU_region] | rw [EU_draw _ _ rfl]); simp (maxSteps := 1000000) (disch := first | decide | omega | (simp only [go_sem]; first | done | omega)) only [go_sem, Int.reduceToNat, Nat.reduceMul, Nat.reduceAdd, Nat.reduceSub, g17, g18]
    ((repeat refine WPo_ob ?_); (first | refine WPo_cond (fun b1 => ?_) (fun b1 => ?_) | refine WPo_gard (fun b1 => ?_) (fun b1 => ?_) | refine WPo_gardT (fun b1 => ?_) (fun b1 => ?_)) <;> (try simp only [Bool.not_eq_true', Bool.not_eq_false'] at b1))
    · have b1' := b1
      simp only [decide_eq_true_eq] at b1'
      have hi' : i < l.length := by omega
      obtain ⟨x, hx⟩ : ∃ x, l[i]? = some x := ⟨_, List.getElem?_eq_getElem hi'⟩
      obtain ⟨b, o, c', e, hb', hrd, hr⟩ := (hs.ext x2).at hx rfl
      cases e
      simp (maxSteps := 1000000) (disch := first | decide | omega | (simp only [go_sem]; first | done | omega)) only [go_sem, Int.reduceToNat, Nat.reduceMul, Nat.reduceAdd, Nat.reduceSub, g1, g3, g4, g16, g17, g18, hrd]
      (first | rw [EU_region] | rw [EU_draw _ _ rfl]); simp (maxSteps := 1000000) (disch := first | decide | omega | (simp only [go_sem]; first | done | omega)) only [go_sem, Int.reduceToNat, Nat.reduceMul, Nat.reduceAdd, Nat.reduceSub, g1, g3, g4, g16, g17, g18, hrd]
      repeat refine WPo_ob ?_
      refine WPo.mono (Q := fun q => ∃ tm' h3 B, q = (.normal, ⟨tm', h3, []⟩) ∧ Ext (h2.push (.cells (itemE x) 0)) h3 ∧ h2.next < B ∧ B < h3.next ∧ h3.get B = .cells ((chks (prevAt l i) x).flatMap chkE) 2 ∧ Fr.get tm' 1 = ptr h.next 0 ∧ Fr.get tm' 3 = .slice av acc.length kv ∧ Fr.get tm' 4 = .bool (decide ((l.length : Int) > 0) && (l.take i).all neg) ∧ Fr.get tm' 6 = ptr h2.next 0 ∧ Fr.get tm' 16 = .slice (some ⟨b, o, none⟩) l.length c ∧ Fr.get tm' 17 = .int .i64 l.length ∧ Fr.get tm' 18 = .int .i64 i ∧ Fr.get tm' 62 = .slice (some ⟨B, 0, none⟩) 4 9 ∧ Fr.get tm' 63 = .int .i64 4 ∧ Fr.get tm' 64 = .int .i64 0) ?_ ?_
      · rw [EU_bad _ _ rfl, EC_tab (tab := [(false, none), (false, none), (false, none), (false, none), (false, none), (false, (some (0, 1))), (false, none), (false, none), (false, none), (false, none), (false, none), (false, none), (false, none), (false, (some (0, 1))), (false, none), (false, (some (0, 1))), (false, none), (false, none), (false, none), (false, none), (false, none), (false, (some (0, 1))), (false, none), (false, none), (false, none), (false, none), (false, none), (true, none), (false, none), (false, none), (false, none), (false, (some (0, 1))), (false, none), (false, none), (false, none), (false, none), (false, none), (false, none), (false, none), (true, none), (false, (some (1, 2))), (false, none)]) (by kernel_rfl)]
        rcases Nat.eq_zero_or_pos i with q0 | q0
        · have hp : prevAt l i = none := by unfold prevAt; rw [if_pos q0]
          have hz : decide ((i : Int) > 0) = false := decide_eq_false (by omega)
          rw [hp]
          simp (maxSteps := 1000000) (disch := first | decide | omega | (simp only [go_sem]; first | done | omega)) only [go_sem, Int.reduceToNat, Nat.reduceMul, Nat.reduceAdd, Nat.reduceSub, ↓EU_region, ↓EU_draw, g1, g3, g4, g16, g17, g18, hrd, wGood_ev, hz]
          repeat' (((repeat refine WPo_ob ?_); (first | refine WPo_cond (fun hb => ?_) (fun hb => ?_) | refine WPo_gard (fun hb => ?_) (fun hb => ?_) | refine WPo_gardT (fun hb => ?_) (fun hb => ?_)) <;> (try simp only [Bool.not_eq_true', Bool.not_eq_false'] at hb)) <;> (simp (maxSteps := 1000000) (disch := first | decide | omega | (simp only [go_sem]; first | done | omega)) only [go_sem, Int.reduceToNat, Nat.reduceMul, Nat.reduceAdd, Nat.reduceSub, ↓EU_region, ↓EU_draw, hb, g1, g3, g4, g16, g17, g18, hrd, wGood_ev, hz]))
          all_goals exact ⟨_, _, h2.next + 1, rfl, by repeat (first | exact Ext.refl _ | assumption | refine Ext.push ?_ _ | refine Ext.set ?_ _ _ (by first | omega | (simp only [next_push, next_set]; omega))), by omega, by simp only [next_push]; omega, by simp (maxSteps := 1000000) (disch := first | decide | omega | (simp only [go_sem]; first | done | omega)) only [go_sem, Int.reduceToNat, Nat.reduceMul, Nat.reduceAdd, Nat.reduceSub, ↓EU_region, ↓EU_draw]; simp [chks, chkE, idBad, lagBad, ordBad, *], by simp (maxSteps := 1000000) (disch := first | decide | omega | (simp only [go_sem]; first | done | omega)) only [go_sem, Int.reduceToNat, Nat.reduceMul, Nat.reduceAdd, Nat.reduceSub, ↓EU_region, ↓EU_draw, g1], by simp (maxSteps := 1000000) (disch := first | decide | omega | (simp only [go_sem]; first | done | omega)) only [go_sem, Int.reduceToNat, Nat.reduceMul, Nat.reduceAdd, Nat.reduceSub, ↓EU_region, ↓EU_draw, g3], by simp (maxSteps := 1000000) (disch := first | decide | omega | (simp only [go_sem]; first | done | omega)) only [go_sem, Int.reduceToNat, Nat.reduceMul, Nat.reduceAdd, Nat.reduceSub, ↓EU_region, ↓EU_draw, g4], by simp (maxSteps := 1000000) (disch := first | decide | omega | (simp only [go_sem]; first | done | omega)) only [go_sem, Int.reduceToNat, Nat.reduceMul, Nat.reduceAdd, Nat.reduceSub, ↓EU_region, ↓EU_draw], by simp (maxSteps := 1000000) (disch := first | decide | omega | (simp only [go_sem]; first | done | omega)) only [go_sem, Int.reduceToNat, Nat.reduceMul, Nat.reduceAdd, Nat.reduceSub, ↓EU_region, ↓EU_draw, g16], by simp (maxSteps := 1000000) (disch := first | decide | omega | (simp only [go_sem]; first | done | omega)) only [go_sem, Int.reduceToNat, Nat.reduceMul, Nat.reduceAdd, Nat.reduceSub, ↓EU_region, ↓EU_draw, g17], by simp (maxSteps := 1000000) (disch := first | decide | omega | (simp only [go_sem]; first | done | omega)) only [go_sem, Int.reduceToNat, Nat.reduceMul, Nat.reduceAdd, Nat.reduceSub, ↓EU_region, ↓EU_draw, g18], by simp (maxSteps := 1000000) (disch := first | decide | omega | (simp only [go_sem]; first | done | omega)) only [go_sem, Int.reduceToNat, Nat.reduceMul, Nat.reduceAdd, Nat.reduceSub, ↓EU_region, ↓EU_draw], by simp (maxSteps := 1000000) (disch := first | decide | omega | (simp only [go_sem]; first | done | omega)) only [go_sem, Int.reduceToNat, Nat.reduceMul, Nat.reduceAdd, Nat.reduceSub, ↓EU_region, ↓EU_draw]; rfl, by simp (maxSteps := 1000000) (disch := first | decide | omega | (simp only [go_sem]; first | done | omega)) only [go_sem, Int.reduceToNat, Nat.reduceMul, Nat.reduceAdd, Nat.reduceSub, ↓EU_region, ↓EU_draw]⟩
        · obtain ⟨y, hy⟩ : ∃ y, l[i - 1]? = some y := ⟨_, List.getElem?_eq_getElem (by omega)⟩
          obtain ⟨_, _, _, e, _, _, hq⟩ := (hs.ext x2).at hy rfl
          cases e
          have hq0 := hq 0 _ rfl
          rw [add_z] at hq0
          have hp : prevAt l i = some y := by unfold prevAt; rw [if_neg (by omega), hy]
          have hz : decide ((i : Int) > 0) = true := decide_eq_true (by omega)
          have hmx : (if (0 : Int) > ((i - 1 : Nat) : Int) then (0 : Int) else ((i - 1 : Nat) : Int)) = ((i - 1 : Nat) : Int) := if_neg (by omega)
          rw [hp]
          have hw1 : wrapF .i64 ((i : Int) - 1) = ((i - 1 : Nat) : Int) := by rw [wrap64 (by omega)]; omega
          simp (maxSteps := 1000000) (disch := first | decide | omega | (simp only [go_sem]; first | done | omega)) only [go_sem, Int.reduceToNat, Nat.reduceMul, Nat.reduceAdd, Nat.reduceSub, ↓EU_region, ↓EU_draw, g1, g3, g4, g16, g17, g18, hrd, wGood_ev, hz, hq0, hF, hw1, hmx]
          repeat' (((repeat refine WPo_ob ?_); (first | refine WPo_cond (fun hb => ?_) (fun hb => ?_) | refine WPo_gard (fun hb => ?_) (fun hb => ?_) | refine WPo_gardT (fun hb => ?_) (fun hb => ?_)) <;> (try simp only [Bool.not_eq_true', Bool.not_eq_false'] at hb)) <;> (simp (maxSteps := 1000000) (disch := first | decide | omega | (simp only [go_sem]; first | done | omega)) only [go_sem, Int.reduceToNat, Nat.reduceMul, Nat.reduceAdd, Nat.reduceSub, ↓EU_region, ↓EU_draw, hb, g1, g3, g4, g16, g17, g18, hrd, wGood_ev, hz, hq0, hF, hw1, hmx]))
          all_goals exact ⟨_, _, h2.next + 1, rfl, by repeat (first | exact Ext.refl _ | assumption | refine Ext.push ?_ _ | refine Ext.set ?_ _ _ (by first | omega | (simp only [next_push, next_set]; omega))), by omega, by simp only [next_push]; omega, by simp (maxSteps := 1000000) (disch := first | decide | omega | (simp only [go_sem]; first | done | omega)) only [go_sem, Int.reduceToNat, Nat.reduceMul, Nat.reduceAdd, Nat.reduceSub, ↓EU_region, ↓EU_draw]; simp [chks, chkE, idBad, lagBad, ordBad, *], by simp (maxSteps := 1000000) (disch := first | decide | omega | (simp only [go_sem]; first | done | omega)) only [go_sem, Int.reduceToNat, Nat.reduceMul, Nat.reduceAdd, Nat.reduceSub, ↓EU_region, ↓EU_draw, g1], by simp (maxSteps := 1000000) (disch := first | decide | omega | (simp only [go_sem]; first | done | omega)) only [go_sem, Int.reduceToNat, Nat.reduceMul, Nat.reduceAdd, Nat.reduceSub, ↓EU_region, ↓EU_draw, g3], by simp (maxSteps := 1000000) (disch := first | decide | omega | (simp only [go_sem]; first | done | omega)) only [go_sem, Int.reduceToNat, Nat.reduceMul, Nat.reduceAdd, Nat.reduceSub, ↓EU_region, ↓EU_draw, g4], by simp (maxSteps := 1000000) (disch := first | decide | omega | (simp only [go_sem]; first | done | omega)) only [go_sem, Int.reduceToNat, Nat.reduceMul, Nat.reduceAdd, Nat.reduceSub, ↓EU_region, ↓EU_draw], by simp (maxSteps := 1000000) (disch := first | decide | omega | (simp only [go_sem]; first | done | omega)) only [go_sem, Int.reduceToNat, Nat.reduceMul, Nat.reduceAdd, Nat.reduceSub, ↓EU_region, ↓EU_draw, g16], by simp (maxSteps := 1000000) (disch := first | decide | omega | (simp only [go_sem]; first | done | omega)) only [go_sem, Int.reduceToNat, Nat.reduceMul, Nat.reduceAdd, Nat.reduceSub, ↓EU_region, ↓EU_draw, g17], by simp (maxSteps := 1000000) (disch := first | decide | omega | (simp only [go_sem]; first | done | omega)) only [go_sem, Int.reduceToNat, Nat.reduceMul, Nat.reduceAdd, Nat.reduceSub, ↓EU_region, ↓EU_draw, g18], by simp (maxSteps := 1000000) (disch := first | decide | omega | (simp only [go_sem]; first | done | omega)) only [go_sem, Int.reduceToNat, Nat.reduceMul, Nat.reduceAdd, Nat.reduceSub, ↓EU_region, ↓EU_draw], by simp (maxSteps := 1000000) (disch := first | decide | omega | (simp only [go_sem]; first | done | omega)) only [go_sem, Int.reduceToNat, Nat.reduceMul, Nat.reduceAdd, Nat.reduceSub, ↓EU_region, ↓EU_draw]; rfl, by simp (maxSteps := 1000000) (disch := first | decide | omega | (simp only [go_sem]; first | done | omega)) only [go_sem, Int.reduceToNat, Nat.reduceMul, Nat.reduceAdd, Nat.reduceSub, ↓EU_region, ↓EU_draw]⟩
      · clear g1 g3 g4 g16 g17 g18
        rintro _ ⟨tm', h3, B, rfl, x3, hB1, hB2, hB, k1, k3, k4, k6, k16, k17, k18, k62, k63, k64⟩
        have hn3 := x3.le
        simp only [next_push] at hn3
        have y3 : Ext h2 h3 := ((Ext.refl h2).push _).trans x3
        have hX3 : h3.get h2.next = .cells (itemE x) 0 := by rw [x3.old _ (by rw [next_push]; omega)]; exact get_push_new _ _
        have hgo2 : fGo none l = acc ++ (flts x.id (chks (prevAt l i) x) ++ fGo (some x) (l.drop (i + 1))) := by rw [hgo, drop_at hx]; rfl
        have sC : SL chkE 2 h3 (.slice (some ⟨B, 0, none⟩) 4 9) (chks (prevAt l i) x) := (OW.new (e := chkE) (l := chks (prevAt l i) x) (fun _ => rfl) hB2 hB rfl rfl).sl
        have hcl : (chks (prevAt l i) x).length = 4 := rfl
        generalize chks (prevAt l i) x = cs at *
        simp (maxSteps := 1000000) (disch := first | decide | omega | (simp only [go_sem]; first | done | omega)) only [go_sem, Int.reduceToNat, Nat.reduceMul, Nat.reduceAdd, Nat.reduceSub, k1, k3, k4, k6, k16, k17, k18, k62, k63, k64]
        repeat refine WPo_ob ?_
        refine (LP_rule (fun m st => ∃ (k : Nat) (tm2 : Fr) (h4 : Heap) (u : Value) (ac2 : List Flt), st = ⟨tm2, h4, []⟩ ∧ m = 4 - k ∧ k ≤ 4 ∧ Fr.get tm2 1 = ptr h.next 0 ∧ Fr.get tm2 3 = u ∧ Fr.get tm2 4 = .bool (decide ((l.length : Int) > 0) && (l.take i).all neg) ∧ Fr.get tm2 6 = ptr h2.next 0 ∧ Fr.get tm2 16 = .slice (some ⟨b, o, none⟩) l.length c ∧ Fr.get tm2 17 = .int .i64 l.length ∧ Fr.get tm2 18 = .int .i64 i ∧ Fr.get tm2 62 = .slice (some ⟨B, 0, none⟩) 4 9 ∧ Fr.get tm2 63 = .int .i64 4 ∧ Fr.get tm2 64 = .int .i64 k ∧ OW fltE 2 h4 u ac2 ∧ ac2 = acc ++ flts x.id (cs.take k) ∧ Gr (.slice av acc.length kv) h3 u h4)
          (fun q => ∃ (tm2 : Fr) (h4 : Heap) (u : Value), q.2 = ⟨tm2, h4, []⟩ ∧ q.1 = .exit 2 ∧ Fr.get tm2 1 = ptr h.next 0 ∧ Fr.get tm2 3 = u ∧ Fr.get tm2 4 = .bool (decide ((l.length : Int) > 0) && (l.take i).all neg) ∧ Fr.get tm2 6 = ptr h2.next 0 ∧ Fr.get tm2 16 = .slice (some ⟨b, o, none⟩) l.length c ∧ Fr.get tm2 17 = .int .i64 l.length ∧ Fr.get tm2 18 = .int .i64 i ∧ OW fltE 2 h4 u (acc ++ flts x.id cs) ∧ Gr (.slice av acc.length kv) h3 u h4) ?_ 4 _ _ ?_ ?_).mono ?_
        · clear k1 k3 k4 k6 k16 k17 k18 k62 k63 k64
          rintro m _ ⟨k, tm2, h4, u, ac2, rfl, rfl, hk, k1, k3, k4, k6, k16, k17, k18, k62, k63, k64, hov4, hac, gr4⟩
          have hn4 := gr4.le
          have hX4 : h4.get h2.next = .cells (itemE x) 0 := (gr4.old _ (by omega) (fun q => by have := hov.lt q; omega)).trans hX3
          have sC4 : SL chkE 2 h4 (.slice (some ⟨B, 0, none⟩) 4 9) cs := sC.modB gr4.mod (fun j hj q => by have := hov.lt q; cases hj; omega)
          have hfu : Fresh (h.next + 1) u := gr4.fresh hfv (by omega)
          have hul : ∀ j, blkOf u j → j < h2.next ∨ h3.next ≤ j := fun j hj => (gr4.src j hj).imp (fun q => hov.lt q) id
          obtain ⟨au, ku, rfl⟩ := hov4.val
          simp (maxSteps := 1000000) (disch := first | decide | omega | (simp only [go_sem]; first | done | omega)) only [go_sem, Int.reduceToNat, Nat.reduceMul, Nat.reduceAdd, Nat.reduceSub, k1, k3, k4, k6, k16, k17, k18, k62, k63, k64]
          (first | rw [EU_region] | rw [EU_draw _ _ rfl]); simp (maxSteps := 1000000) (disch := first | decide | omega | (simp only [go_sem]; first | done | omega)) only [go_sem, Int.reduceToNat, Nat.reduceMul, Nat.reduceAdd, Nat.reduceSub, k63, k64]
          ((repeat refine WPo_ob ?_); (first | refine WPo_cond (fun b2 => ?_) (fun b2 => ?_) | refine WPo_gard (fun b2 => ?_) (fun b2 => ?_) | refine WPo_gardT (fun b2 => ?_) (fun b2 => ?_)) <;> (try simp only [Bool.not_eq_true', Bool.not_eq_false'] at b2))
          · have b2' := b2
            simp only [decide_eq_true_eq] at b2'
            have hk' : k < cs.length := by omega
            obtain ⟨kd, hkd⟩ : ∃ x, cs[k]? = some x := ⟨_, List.getElem?_eq_getElem hk'⟩
            obtain ⟨B', o', c', e, hb2, hrk, hrk1⟩ := sC4.at hkd rfl
            rw [hcl] at e
            cases e
            obtain ⟨kk, kb⟩ := kd
            have htk : cs.take (k + 1) = cs.take k ++ [(kk, kb)] := by rw [List.take_add_one, hkd]; rfl
            rw [Nat.zero_add] at hrk
            simp only [chkE] at hrk
            have hft : flts x.id (cs.take (k + 1)) = flts x.id (cs.take k) ++ (if kb then [⟨kk, x.id⟩] else []) := by rw [htk]; unfold flts; rw [List.filter_append, List.map_append]; cases kb <;> rfl
            have hfl := flts_len x.id (cs.take k)
            rw [List.length_take] at hfl
            simp (maxSteps := 1000000) (disch := first | decide | omega | (simp only [go_sem]; first | done | omega)) only [go_sem, Int.reduceToNat, Nat.reduceMul, Nat.reduceAdd, Nat.reduceSub, ↓EU_region, ↓EU_draw, k1, k3, k4, k6, k16, k17, k18, k62, k63, k64, hrk, hX4]
            have hwk : wrapF .i64 ((k : Int) + 1) = ((k + 1 : Nat) : Int) := by rw [wrap64 (by omega)]; omega
            cases kb with
            | false =>
              simp (maxSteps := 1000000) (disch := first | decide | omega | (simp only [go_sem]; first | done | omega)) only [go_sem, Int.reduceToNat, Nat.reduceMul, Nat.reduceAdd, Nat.reduceSub, ↓EU_region, ↓EU_draw, k1, k3, k4, k6, k16, k17, k18, k62, k63, k64, hX4, hwk]
              exact ⟨_, by omega, k + 1, _, _, _, ac2, rfl, rfl, by omega, by simp (maxSteps := 1000000) (disch := first | decide | omega | (simp only [go_sem]; first | done | omega)) only [go_sem, Int.reduceToNat, Nat.reduceMul, Nat.reduceAdd, Nat.reduceSub, ↓EU_region, ↓EU_draw, k1], by simp (maxSteps := 1000000) (disch := first | decide | omega | (simp only [go_sem]; first | done | omega)) only [go_sem, Int.reduceToNat, Nat.reduceMul, Nat.reduceAdd, Nat.reduceSub, ↓EU_region, ↓EU_draw, k3], by simp (maxSteps := 1000000) (disch := first | decide | omega | (simp only [go_sem]; first | done | omega)) only [go_sem, Int.reduceToNat, Nat.reduceMul, Nat.reduceAdd, Nat.reduceSub, ↓EU_region, ↓EU_draw, k4], by simp (maxSteps := 1000000) (disch := first | decide | omega | (simp only [go_sem]; first | done | omega)) only [go_sem, Int.reduceToNat, Nat.reduceMul, Nat.reduceAdd, Nat.reduceSub, ↓EU_region, ↓EU_draw, k6], by simp (maxSteps := 1000000) (disch := first | decide | omega | (simp only [go_sem]; first | done | omega)) only [go_sem, Int.reduceToNat, Nat.reduceMul, Nat.reduceAdd, Nat.reduceSub, ↓EU_region, ↓EU_draw, k16], by simp (maxSteps := 1000000) (disch := first | decide | omega | (simp only [go_sem]; first | done | omega)) only [go_sem, Int.reduceToNat, Nat.reduceMul, Nat.reduceAdd, Nat.reduceSub, ↓EU_region, ↓EU_draw, k17], by simp (maxSteps := 1000000) (disch := first | decide | omega | (simp only [go_sem]; first | done | omega)) only [go_sem, Int.reduceToNat, Nat.reduceMul, Nat.reduceAdd, Nat.reduceSub, ↓EU_region, ↓EU_draw, k18], by simp (maxSteps := 1000000) (disch := first | decide | omega | (simp only [go_sem]; first | done | omega)) only [go_sem, Int.reduceToNat, Nat.reduceMul, Nat.reduceAdd, Nat.reduceSub, ↓EU_region, ↓EU_draw, k62], by simp (maxSteps := 1000000) (disch := first | decide | omega | (simp only [go_sem]; first | done | omega)) only [go_sem, Int.reduceToNat, Nat.reduceMul, Nat.reduceAdd, Nat.reduceSub, ↓EU_region, ↓EU_draw, k63], by simp (maxSteps := 1000000) (disch := first | decide | omega | (simp only [go_sem]; first | done | omega)) only [go_sem, Int.reduceToNat, Nat.reduceMul, Nat.reduceAdd, Nat.reduceSub, ↓EU_region, ↓EU_draw], hov4.ext ((Ext.refl _).push _), by rw [hac, hft]; simp, gr4.push _⟩
            | true =>
              simp (maxSteps := 1000000) (disch := first | decide | omega | (simp only [go_sem]; first | done | omega)) only [go_sem, Int.reduceToNat, Nat.reduceMul, Nat.reduceAdd, Nat.reduceSub, ↓EU_region, ↓EU_draw, k1, k3, k4, k6, k16, k17, k18, k62, k63, k64, hX4, hwk]
              repeat refine WPo_ob ?_
              have hlit := OW.lit fltE_len (h4.push (.cells [.int .i64 kk, .bool true] 0)) [(⟨kk, x.id⟩ : Flt)]
              rw [List.flatMap_cons, List.flatMap_nil, List.append_nil] at hlit
              unfold fltE at hlit
              refine append_gr (l := ac2) (l' := [(⟨kk, x.id⟩ : Flt)]) fc_ap_122_122 fltE_len (by decide) fltE_scal (hov4.ext (((Ext.refl h4).push _).push _)) hlit.sl (by rw [hac, List.length_append]; simp only [List.length_cons, List.length_nil]; omega) (by rw [hac, List.length_append]; simp only [List.length_cons, List.length_nil]; omega) fun v' h5 hov5 gr5 => ?_
              have hac' : ac2 ++ [(⟨kk, x.id⟩ : Flt)] = acc ++ flts x.id (cs.take (k + 1)) := by rw [hac, hft]; simp
              simp (maxSteps := 1000000) (disch := first | decide | omega | (simp only [go_sem]; first | done | omega)) only [go_sem, Int.reduceToNat, Nat.reduceMul, Nat.reduceAdd, Nat.reduceSub, ↓EU_region, ↓EU_draw, k1, k3, k4, k6, k16, k17, k18, k62, k63, k64, hwk]
              exact ⟨_, by omega, k + 1, _, _, _, _, rfl, rfl, by omega, by simp (maxSteps := 1000000) (disch := first | decide | omega | (simp only [go_sem]; first | done | omega)) only [go_sem, Int.reduceToNat, Nat.reduceMul, Nat.reduceAdd, Nat.reduceSub, ↓EU_region, ↓EU_draw, k1], by simp (maxSteps := 1000000) (disch := first | decide | omega | (simp only [go_sem]; first | done | omega)) only [go_sem, Int.reduceToNat, Nat.reduceMul, Nat.reduceAdd, Nat.reduceSub, ↓EU_region, ↓EU_draw], by simp (maxSteps := 1000000) (disch := first | decide | omega | (simp only [go_sem]; first | done | omega)) only [go_sem, Int.reduceToNat, Nat.reduceMul, Nat.reduceAdd, Nat.reduceSub, ↓EU_region, ↓EU_draw, k4], by simp (maxSteps := 1000000) (disch := first | decide | omega | (simp only [go_sem]; first | done | omega)) only [go_sem, Int.reduceToNat, Nat.reduceMul, Nat.reduceAdd, Nat.reduceSub, ↓EU_region, ↓EU_draw, k6], by simp (maxSteps := 1000000) (disch := first | decide | omega | (simp only [go_sem]; first | done | omega)) only [go_sem, Int.reduceToNat, Nat.reduceMul, Nat.reduceAdd, Nat.reduceSub, ↓EU_region, ↓EU_draw, k16], by simp (maxSteps := 1000000) (disch := first | decide | omega | (simp only [go_sem]; first | done | omega)) only [go_sem, Int.reduceToNat, Nat.reduceMul, Nat.reduceAdd, Nat.reduceSub, ↓EU_region, ↓EU_draw, k17], by simp (maxSteps := 1000000) (disch := first | decide | omega | (simp only [go_sem]; first | done | omega)) only [go_sem, Int.reduceToNat, Nat.reduceMul, Nat.reduceAdd, Nat.reduceSub, ↓EU_region, ↓EU_draw, k18], by simp (maxSteps := 1000000) (disch := first | decide | omega | (simp only [go_sem]; first | done | omega)) only [go_sem, Int.reduceToNat, Nat.reduceMul, Nat.reduceAdd, Nat.reduceSub, ↓EU_region, ↓EU_draw, k62], by simp (maxSteps := 1000000) (disch := first | decide | omega | (simp only [go_sem]; first | done | omega)) only [go_sem, Int.reduceToNat, Nat.reduceMul, Nat.reduceAdd, Nat.reduceSub, ↓EU_region, ↓EU_draw, k63], by simp (maxSteps := 1000000) (disch := first | decide | omega | (simp only [go_sem]; first | done | omega)) only [go_sem, Int.reduceToNat, Nat.reduceMul, Nat.reduceAdd, Nat.reduceSub, ↓EU_region, ↓EU_draw], hov5, hac', ((gr4.push _).push _).trans gr5⟩
          · simp only [decide_eq_false_iff_not] at b2
            have : k = 4 := by omega
            subst this
            rw [List.take_of_length_le (by omega)] at hac
            subst hac
            simp (maxSteps := 1000000) (disch := first | decide | omega | (simp only [go_sem]; first | done | omega)) only [go_sem, Int.reduceToNat, Nat.reduceMul, Nat.reduceAdd, Nat.reduceSub, ↓EU_region, ↓EU_draw]
            exact ⟨_, _, _, rfl, trivial, by simp (maxSteps := 1000000) (disch := first | decide | omega | (simp only [go_sem]; first | done | omega)) only [go_sem, Int.reduceToNat, Nat.reduceMul, Nat.reduceAdd, Nat.reduceSub, ↓EU_region, ↓EU_draw, k1], by simp (maxSteps := 1000000) (disch := first | decide | omega | (simp only [go_sem]; first | done | omega)) only [go_sem, Int.reduceToNat, Nat.reduceMul, Nat.reduceAdd, Nat.reduceSub, ↓EU_region, ↓EU_draw, k3], by simp (maxSteps := 1000000) (disch := first | decide | omega | (simp only [go_sem]; first | done | omega)) only [go_sem, Int.reduceToNat, Nat.reduceMul, Nat.reduceAdd, Nat.reduceSub, ↓EU_region, ↓EU_draw, k4], by simp (maxSteps := 1000000) (disch := first | decide | omega | (simp only [go_sem]; first | done | omega)) only [go_sem, Int.reduceToNat, Nat.reduceMul, Nat.reduceAdd, Nat.reduceSub, ↓EU_region, ↓EU_draw, k6], by simp (maxSteps := 1000000) (disch := first | decide | omega | (simp only [go_sem]; first | done | omega)) only [go_sem, Int.reduceToNat, Nat.reduceMul, Nat.reduceAdd, Nat.reduceSub, ↓EU_region, ↓EU_draw, k16], by simp (maxSteps := 1000000) (disch := first | decide | omega | (simp only [go_sem]; first | done | omega)) only [go_sem, Int.reduceToNat, Nat.reduceMul, Nat.reduceAdd, Nat.reduceSub, ↓EU_region, ↓EU_draw, k17], by simp (maxSteps := 1000000) (disch := first | decide | omega | (simp only [go_sem]; first | done | omega)) only [go_sem, Int.reduceToNat, Nat.reduceMul, Nat.reduceAdd, Nat.reduceSub, ↓EU_region, ↓EU_draw, k18], hov4, gr4⟩
        · exact ⟨0, _, _, _, acc, rfl, rfl, by omega, by simp (maxSteps := 1000000) (disch := first | decide | omega | (simp only [go_sem]; first | done | omega)) only [go_sem, Int.reduceToNat, Nat.reduceMul, Nat.reduceAdd, Nat.reduceSub, ↓EU_region, ↓EU_draw, k1], by simp (maxSteps := 1000000) (disch := first | decide | omega | (simp only [go_sem]; first | done | omega)) only [go_sem, Int.reduceToNat, Nat.reduceMul, Nat.reduceAdd, Nat.reduceSub, ↓EU_region, ↓EU_draw, k3], by simp (maxSteps := 1000000) (disch := first | decide | omega | (simp only [go_sem]; first | done | omega)) only [go_sem, Int.reduceToNat, Nat.reduceMul, Nat.reduceAdd, Nat.reduceSub, ↓EU_region, ↓EU_draw, k4], by simp (maxSteps := 1000000) (disch := first | decide | omega | (simp only [go_sem]; first | done | omega)) only [go_sem, Int.reduceToNat, Nat.reduceMul, Nat.reduceAdd, Nat.reduceSub, ↓EU_region, ↓EU_draw, k6], by simp (maxSteps := 1000000) (disch := first | decide | omega | (simp only [go_sem]; first | done | omega)) only [go_sem, Int.reduceToNat, Nat.reduceMul, Nat.reduceAdd, Nat.reduceSub, ↓EU_region, ↓EU_draw, k16], by simp (maxSteps := 1000000) (disch := first | decide | omega | (simp only [go_sem]; first | done | omega)) only [go_sem, Int.reduceToNat, Nat.reduceMul, Nat.reduceAdd, Nat.reduceSub, ↓EU_region, ↓EU_draw, k17], by simp (maxSteps := 1000000) (disch := first | decide | omega | (simp only [go_sem]; first | done | omega)) only [go_sem, Int.reduceToNat, Nat.reduceMul, Nat.reduceAdd, Nat.reduceSub, ↓EU_region, ↓EU_draw, k18], by simp (maxSteps := 1000000) (disch := first | decide | omega | (simp only [go_sem]; first | done | omega)) only [go_sem, Int.reduceToNat, Nat.reduceMul, Nat.reduceAdd, Nat.reduceSub, ↓EU_region, ↓EU_draw, k62], by simp (maxSteps := 1000000) (disch := first | decide | omega | (simp only [go_sem]; first | done | omega)) only [go_sem, Int.reduceToNat, Nat.reduceMul, Nat.reduceAdd, Nat.reduceSub, ↓EU_region, ↓EU_draw, k63], by simp (maxSteps := 1000000) (disch := first | decide | omega | (simp only [go_sem]; first | done | omega)) only [go_sem, Int.reduceToNat, Nat.reduceMul, Nat.reduceAdd, Nat.reduceSub, ↓EU_region, ↓EU_draw, k64]; rfl, hov.ext y3, by simp [flts], Gr.refl _ _⟩
        · omega
        · clear k1 k3 k4 k6 k16 k17 k18 k62 k63 k64
          rintro ⟨q, _⟩ ⟨tm2, h4, u, rfl, rfl, k1, k3, k4, k6, k16, k17, k18, hov4, gr4⟩
          have hn4 := gr4.le
          have hX4 : h4.get h2.next = .cells (itemE x) 0 := (gr4.old _ (by omega) (fun q => by have := hov.lt q; omega)).trans hX3
          obtain ⟨au, ku, rfl⟩ := hov4.val
          have hgr : Gr (.slice none 0 1) h0 (.slice au (acc ++ flts x.id cs).length ku) h4 := (gr.ext y3).trans gr4
          have hpr : prevAt l (i + 1) = some x := by unfold prevAt; rw [if_neg (by omega), Nat.add_sub_cancel, hx]
          have hfl := flts_len x.id cs
          have hta : (l.take (i + 1)).all neg = ((l.take i).all neg && neg x) := by rw [List.take_add_one, hx]; simp
          have hwi : wrapF .i64 ((i : Int) + 1) = ((i + 1 : Nat) : Int) := by rw [wrap64 (by omega)]; omega
          have hg : decide (x.lag < 0) = neg x := rfl
          simp (maxSteps := 1000000) (disch := first | decide | omega | (simp only [go_sem]; first | done | omega)) only [go_sem, Int.reduceToNat, Nat.reduceMul, Nat.reduceAdd, Nat.reduceSub, ↓EU_region, ↓EU_draw, k1, k3, k4, k6, k16, k17, k18, hX4, hwi]
          repeat' (((repeat refine WPo_ob ?_); (first | refine WPo_cond (fun hb => ?_) (fun hb => ?_) | refine WPo_gard (fun hb => ?_) (fun hb => ?_) | refine WPo_gardT (fun hb => ?_) (fun hb => ?_)) <;> (try simp only [Bool.not_eq_true', Bool.not_eq_false'] at hb)) <;> (simp (maxSteps := 1000000) (disch := first | decide | omega | (simp only [go_sem]; first | done | omega)) only [go_sem, Int.reduceToNat, Nat.reduceMul, Nat.reduceAdd, Nat.reduceSub, ↓EU_region, ↓EU_draw, hb, k1, k3, k4, k6, k16, k17, k18, hX4, hwi]))
          all_goals exact ⟨_, by omega, i + 1, _, _, _, acc ++ flts x.id cs, rfl, rfl, by omega, by simp (maxSteps := 1000000) (disch := first | decide | omega | (simp only [go_sem]; first | done | omega)) only [go_sem, Int.reduceToNat, Nat.reduceMul, Nat.reduceAdd, Nat.reduceSub, ↓EU_region, ↓EU_draw, k1], by simp (maxSteps := 1000000) (disch := first | decide | omega | (simp only [go_sem]; first | done | omega)) only [go_sem, Int.reduceToNat, Nat.reduceMul, Nat.reduceAdd, Nat.reduceSub, ↓EU_region, ↓EU_draw, k3], by simp (maxSteps := 1000000) (disch := first | decide | omega | (simp only [go_sem]; first | done | omega)) only [go_sem, Int.reduceToNat, Nat.reduceMul, Nat.reduceAdd, Nat.reduceSub, ↓EU_region, ↓EU_draw]; rw [hta, ← Bool.and_assoc, hb]; rfl, by simp (maxSteps := 1000000) (disch := first | decide | omega | (simp only [go_sem]; first | done | omega)) only [go_sem, Int.reduceToNat, Nat.reduceMul, Nat.reduceAdd, Nat.reduceSub, ↓EU_region, ↓EU_draw, k16], by simp (maxSteps := 1000000) (disch := first | decide | omega | (simp only [go_sem]; first | done | omega)) only [go_sem, Int.reduceToNat, Nat.reduceMul, Nat.reduceAdd, Nat.reduceSub, ↓EU_region, ↓EU_draw, k17], by simp (maxSteps := 1000000) (disch := first | decide | omega | (simp only [go_sem]; first | done | omega)) only [go_sem, Int.reduceToNat, Nat.reduceMul, Nat.reduceAdd, Nat.reduceSub, ↓EU_region, ↓EU_draw], hov4, hgr, by rw [List.length_append]; omega, by rw [hgo2, hpr, List.append_assoc]⟩
    · simp only [decide_eq_false_iff_not] at b1
      have : i = l.length := by omega
      subst this
      rw [List.take_length] at g4
      have he : fGo none l = acc := by
        rw [hgo, List.drop_length]
        cases prevAt l l.length <;> simp [fGo]
      subst he
      simp (maxSteps := 1000000) (disch := first | decide | omega | (simp only [go_sem]; first | done | omega)) only [go_sem, Int.reduceToNat, Nat.reduceMul, Nat.reduceAdd, Nat.reduceSub, ↓EU_region, ↓EU_draw]
      exact ⟨_, _, _, rfl, trivial, by simp (maxSteps := 1000000) (disch := first | decide | omega | (simp only [go_sem]; first | done | omega)) only [go_sem, Int.reduceToNat, Nat.reduceMul, Nat.reduceAdd, Nat.reduceSub, ↓EU_region, ↓EU_draw, g1], by simp (maxSteps := 1000000) (disch := first | decide | omega | (simp only [go_sem]; first | done | omega)) only [go_sem, Int.reduceToNat, Nat.reduceMul, Nat.reduceAdd, Nat.reduceSub, ↓EU_region, ↓EU_draw, g3], by simp (maxSteps := 1000000) (disch := first | decide | omega | (simp only [go_sem]; first | done | omega)) only [go_sem, Int.reduceToNat, Nat.reduceMul, Nat.reduceAdd, Nat.reduceSub, ↓EU_region, ↓EU_draw, g4], hov, gr⟩
  · exact ⟨0, _, _, _, [], rfl, rfl, by omega, by simp (maxSteps := 1000000) (disch := first | decide | omega | (simp only [go_sem]; first | done | omega)) only [go_sem, Int.reduceToNat, Nat.reduceMul, Nat.reduceAdd, Nat.reduceSub, ↓EU_region, ↓EU_draw], by simp (maxSteps := 1000000) (disch := first | decide | omega | (simp only [go_sem]; first | done | omega)) only [go_sem, Int.reduceToNat, Nat.reduceMul, Nat.reduceAdd, Nat.reduceSub, ↓EU_region, ↓EU_draw], by simp (maxSteps := 1000000) (disch := first | decide | omega | (simp only [go_sem]; first | done | omega)) only [go_sem, Int.reduceToNat, Nat.reduceMul, Nat.reduceAdd, Nat.reduceSub, ↓EU_region, ↓EU_draw]; simp, by simp (maxSteps := 1000000) (disch := first | decide | omega | (simp only [go_sem]; first | done | omega)) only [go_sem, Int.reduceToNat, Nat.reduceMul, Nat.reduceAdd, Nat.reduceSub, ↓EU_region, ↓EU_draw], by simp (maxSteps := 1000000) (disch := first | decide | omega | (simp only [go_sem]; first | done | omega)) only [go_sem, Int.reduceToNat, Nat.reduceMul, Nat.reduceAdd, Nat.reduceSub, ↓EU_region, ↓EU_draw], by simp (maxSteps := 1000000) (disch := first | decide | omega | (simp only [go_sem]; first | done | omega)) only [go_sem, Int.reduceToNat, Nat.reduceMul, Nat.reduceAdd, Nat.reduceSub, ↓EU_region, ↓EU_draw]; rfl, OW.nil, Gr.refl _ _, by simp, rfl⟩
  · omega
  · rintro ⟨q, _⟩ ⟨tm, h2, u, rfl, rfl, g1, g3, g4, hov, gr⟩
    have hfv : Fresh (h.next + 1) u := by rw [← hn0]; exact Fresh.gr gr (nil_blk _ _)
    have x2 : Ext h h2 := x0.trans (gr.ext0 (Ext.refl _) (Fresh.nil _ _ _))
    have hF : h2.get h.next = .cells [.int .i64 cur, .slice a l.length c] 0 := (gr.old _ (by omega) (nil_blk _ _ _)).trans hF0
    have hn2 : h.next < h2.next := by have := gr.le; omega
    have hgl := fGo_len none l
    obtain ⟨av, kv, rfl⟩ := hov.val
    simp (maxSteps := 1000000) (disch := first | decide | omega | (simp only [go_sem]; first | done | omega)) only [go_sem, Int.reduceToNat, Nat.reduceMul, Nat.reduceAdd, Nat.reduceSub, ↓EU_region, ↓EU_draw, g1, g3, g4, hF]
    repeat refine WPo_ob ?_
    refine WPo.mono (Q := fun q => ∃ tm' h3 u3, q = (.normal, ⟨tm', h3, []⟩) ∧ OW fltE 2 h3 u3 (fGo none l ++ ifF (decide (64 < (l.length : Int))) ⟨5, l.length⟩) ∧ Gr (.slice none 0 1) h0 u3 h3 ∧ Fr.get tm' 1 = ptr h.next 0 ∧ Fr.get tm' 3 = u3 ∧ Fr.get tm' 4 = .bool (decide ((l.length : Int) > 0) && l.all neg)) ?_ ?_
    · ((repeat refine WPo_ob ?_); (first | refine WPo_cond (fun b1 => ?_) (fun b1 => ?_) | refine WPo_gard (fun b1 => ?_) (fun b1 => ?_) | refine WPo_gardT (fun b1 => ?_) (fun b1 => ?_)) <;> (try simp only [Bool.not_eq_true', Bool.not_eq_false'] at b1))
      · simp (maxSteps := 1000000) (disch := first | decide | omega | (simp only [go_sem]; first | done | omega)) only [go_sem, Int.reduceToNat, Nat.reduceMul, Nat.reduceAdd, Nat.reduceSub, ↓EU_region, ↓EU_draw, b1, g1, g3, g4, hF]
        rw [ifF_t]
        repeat refine WPo_ob ?_
        have hlit := OW.lit fltE_len h2 [(⟨5, l.length⟩ : Flt)]
        rw [List.flatMap_cons, List.flatMap_nil, List.append_nil] at hlit
        unfold fltE at hlit
        refine append_gr (l := fGo none l) (l' := [(⟨5, l.length⟩ : Flt)]) fc_ap_122_122 fltE_len (by decide) fltE_scal (hov.ext ((Ext.refl h2).push _)) hlit.sl (by simp only [List.length_append, List.length_cons, List.length_nil]; omega) (by simp only [List.length_append, List.length_cons, List.length_nil]; omega) fun v' h5 hov5 gr5 => ?_
        simp (maxSteps := 1000000) (disch := first | decide | omega | (simp only [go_sem]; first | done | omega)) only [go_sem, Int.reduceToNat, Nat.reduceMul, Nat.reduceAdd, Nat.reduceSub, ↓EU_region, ↓EU_draw, b1, g1, g3, g4, hF]
        exact ⟨_, _, _, rfl, hov5, (gr.push _).trans gr5, by simp (maxSteps := 1000000) (disch := first | decide | omega | (simp only [go_sem]; first | done | omega)) only [go_sem, Int.reduceToNat, Nat.reduceMul, Nat.reduceAdd, Nat.reduceSub, ↓EU_region, ↓EU_draw, g1], by simp (maxSteps := 1000000) (disch := first | decide | omega | (simp only [go_sem]; first | done | omega)) only [go_sem, Int.reduceToNat, Nat.reduceMul, Nat.reduceAdd, Nat.reduceSub, ↓EU_region, ↓EU_draw], by simp (maxSteps := 1000000) (disch := first | decide | omega | (simp only [go_sem]; first | done | omega)) only [go_sem, Int.reduceToNat, Nat.reduceMul, Nat.reduceAdd, Nat.reduceSub, ↓EU_region, ↓EU_draw, g4]⟩
      · simp (maxSteps := 1000000) (disch := first | decide | omega | (simp only [go_sem]; first | done | omega)) only [go_sem, Int.reduceToNat, Nat.reduceMul, Nat.reduceAdd, Nat.reduceSub, ↓EU_region, ↓EU_draw, b1]
        rw [ifF_f]
        exact ⟨_, _, _, rfl, by rw [List.append_nil]; exact hov, gr, by simp (maxSteps := 1000000) (disch := first | decide | omega | (simp only [go_sem]; first | done | omega)) only [go_sem, Int.reduceToNat, Nat.reduceMul, Nat.reduceAdd, Nat.reduceSub, ↓EU_region, ↓EU_draw, g1], by simp (maxSteps := 1000000) (disch := first | decide | omega | (simp only [go_sem]; first | done | omega)) only [go_sem, Int.reduceToNat, Nat.reduceMul, Nat.reduceAdd, Nat.reduceSub, ↓EU_region, ↓EU_draw, g3], by simp (maxSteps := 1000000) (disch := first | decide | omega | (simp only [go_sem]; first | done | omega)) only [go_sem, Int.reduceToNat, Nat.reduceMul, Nat.reduceAdd, Nat.reduceSub, ↓EU_region, ↓EU_draw, g4]⟩
    · clear g1 g3 g4 x2 hF hn2 hfv
      have hl5 := ifF_len (decide (64 < (l.length : Int))) ⟨5, l.length⟩
      generalize hA : fGo none l ++ ifF (decide (64 < (l.length : Int))) ⟨5, l.length⟩ = A5
      have hA5 : A5.length ≤ 4 * l.length + 1 := by rw [← hA, List.length_append]; omega
      rintro _ ⟨tm', h3, u3, rfl, hov3, gr3, g1, g3, g4⟩
      have hfv : Fresh (h.next + 1) u3 := by rw [← hn0]; exact Fresh.gr gr3 (nil_blk _ _)
      have x3 : Ext h h3 := x0.trans (gr3.ext0 (Ext.refl _) (Fresh.nil _ _ _))
      have hF : h3.get h.next = .cells [.int .i64 cur, .slice a l.length c] 0 := (gr3.old _ (by omega) (nil_blk _ _ _)).trans hF0
      have hn3 : h.next < h3.next := by have := gr3.le; omega
      obtain ⟨av3, kv3, rfl⟩ := hov3.val
      have hfd := ofind_ev cur l (.slice a l.length c) cur h3 (hs.ext x3) hl
      unfold formV at hfd
      simp (maxSteps := 1000000) (disch := first | decide | omega | (simp only [go_sem]; first | done | omega)) only [go_sem, Int.reduceToNat, Nat.reduceMul, Nat.reduceAdd, Nat.reduceSub, ↓EU_region, ↓EU_draw, g1, g3, g4, hF]
      repeat refine WPo_ob ?_
      refine hfd.bind fun h4 x4 => ?_
      have hn4 := x4.le
      have hF4 : h4.get h.next = .cells [.int .i64 cur, .slice a l.length c] 0 := (x4.old _ hn3).trans hF
      have hov4 := hov3.ext x4
      have gr4 := gr3.ext x4
      clear hF hov3 gr3
      simp (maxSteps := 1000000) (disch := first | decide | omega | (simp only [go_sem]; first | done | omega)) only [go_sem, Int.reduceToNat, Nat.reduceMul, Nat.reduceAdd, Nat.reduceSub, ↓EU_region, ↓EU_draw, g1, g3, g4, hF4]
      refine WPo.mono (Q := fun q => ∃ tm' h5 u5, q = (.normal, ⟨tm', h5, []⟩) ∧ OW fltE 2 h5 u5 (A5 ++ ifF (!l.any (byId cur) && !decide (cur = -1)) ⟨6, cur⟩) ∧ Gr (.slice none 0 1) h0 u5 h5 ∧ Fr.get tm' 3 = u5 ∧ Fr.get tm' 4 = .bool (decide ((l.length : Int) > 0) && l.all neg)) ?_ ?_
      · cases hq : l.any (byId cur) with
        | true =>
          simp (maxSteps := 1000000) (disch := first | decide | omega | (simp only [go_sem]; first | done | omega)) only [go_sem, Int.reduceToNat, Nat.reduceMul, Nat.reduceAdd, Nat.reduceSub, ↓EU_region, ↓EU_draw, g1, g3, g4, hF4]
          exact ⟨_, _, _, rfl, by rw [ifF_f, List.append_nil]; exact hov4.ext ((Ext.refl _).push _), gr4.push _, by simp (maxSteps := 1000000) (disch := first | decide | omega | (simp only [go_sem]; first | done | omega)) only [go_sem, Int.reduceToNat, Nat.reduceMul, Nat.reduceAdd, Nat.reduceSub, ↓EU_region, ↓EU_draw, g3], by simp (maxSteps := 1000000) (disch := first | decide | omega | (simp only [go_sem]; first | done | omega)) only [go_sem, Int.reduceToNat, Nat.reduceMul, Nat.reduceAdd, Nat.reduceSub, ↓EU_region, ↓EU_draw, g4]⟩
        | false =>
          simp (maxSteps := 1000000) (disch := first | decide | omega | (simp only [go_sem]; first | done | omega)) only [go_sem, Int.reduceToNat, Nat.reduceMul, Nat.reduceAdd, Nat.reduceSub, ↓EU_region, ↓EU_draw, g1, g3, g4, hF4]
          ((repeat refine WPo_ob ?_); (first | refine WPo_cond (fun b2 => ?_) (fun b2 => ?_) | refine WPo_gard (fun b2 => ?_) (fun b2 => ?_) | refine WPo_gardT (fun b2 => ?_) (fun b2 => ?_)) <;> (try simp only [Bool.not_eq_true', Bool.not_eq_false'] at b2))
          · simp (maxSteps := 1000000) (disch := first | decide | omega | (simp only [go_sem]; first | done | omega)) only [go_sem, Int.reduceToNat, Nat.reduceMul, Nat.reduceAdd, Nat.reduceSub, ↓EU_region, ↓EU_draw, b2, g1, g3, g4, hF4]
            rw [ifF_t]
            have hov4p := hov4.ext ((Ext.refl h4).push (.cells (itemE (fndR cur l)) 0))
            repeat refine WPo_ob ?_
            have hlit := OW.lit fltE_len (h4.push (.cells (itemE (fndR cur l)) 0)) [(⟨6, cur⟩ : Flt)]
            rw [List.flatMap_cons, List.flatMap_nil, List.append_nil] at hlit
            unfold fltE at hlit
            refine append_gr (l := A5) (l' := [(⟨6, cur⟩ : Flt)]) fc_ap_122_122 fltE_len (by decide) fltE_scal (hov4p.ext ((Ext.refl (h4.push (.cells (itemE (fndR cur l)) 0))).push _)) hlit.sl (by simp only [List.length_append, List.length_cons, List.length_nil]; omega) (by simp only [List.length_append, List.length_cons, List.length_nil]; omega) fun v' h5 hov5 gr5 => ?_
            simp (maxSteps := 1000000) (disch := first | decide | omega | (simp only [go_sem]; first | done | omega)) only [go_sem, Int.reduceToNat, Nat.reduceMul, Nat.reduceAdd, Nat.reduceSub, ↓EU_region, ↓EU_draw, b2, g1, g3, g4, hF4]
            exact ⟨_, _, _, rfl, hov5, ((gr4.push _).push _).trans gr5, by simp (maxSteps := 1000000) (disch := first | decide | omega | (simp only [go_sem]; first | done | omega)) only [go_sem, Int.reduceToNat, Nat.reduceMul, Nat.reduceAdd, Nat.reduceSub, ↓EU_region, ↓EU_draw], by simp (maxSteps := 1000000) (disch := first | decide | omega | (simp only [go_sem]; first | done | omega)) only [go_sem, Int.reduceToNat, Nat.reduceMul, Nat.reduceAdd, Nat.reduceSub, ↓EU_region, ↓EU_draw, g4]⟩
          · simp (maxSteps := 1000000) (disch := first | decide | omega | (simp only [go_sem]; first | done | omega)) only [go_sem, Int.reduceToNat, Nat.reduceMul, Nat.reduceAdd, Nat.reduceSub, ↓EU_region, ↓EU_draw, b2]
            rw [ifF_f]
            exact ⟨_, _, _, rfl, by rw [List.append_nil]; exact hov4.ext ((Ext.refl _).push _), gr4.push _, by simp (maxSteps := 1000000) (disch := first | decide | omega | (simp only [go_sem]; first | done | omega)) only [go_sem, Int.reduceToNat, Nat.reduceMul, Nat.reduceAdd, Nat.reduceSub, ↓EU_region, ↓EU_draw, g3], by simp (maxSteps := 1000000) (disch := first | decide | omega | (simp only [go_sem]; first | done | omega)) only [go_sem, Int.reduceToNat, Nat.reduceMul, Nat.reduceAdd, Nat.reduceSub, ↓EU_region, ↓EU_draw, g4]⟩
      · clear g1 g3 g4 hfd hF4
        have hl6 := ifF_len (!l.any (byId cur) && !decide (cur = -1)) ⟨6, cur⟩
        generalize hB : A5 ++ ifF (!l.any (byId cur) && !decide (cur = -1)) ⟨6, cur⟩ = A6
        have hA6 : A6.length ≤ 4 * l.length + 2 := by rw [← hB, List.length_append]; omega
        have hfin : formF cur l = A6 ++ ifF (decide ((l.length : Int) > 0) && l.all neg) ⟨7, -1⟩ := by rw [← hB, ← hA]; rfl
        rintro _ ⟨tm5, h6, u6, rfl, hov6, gr6, g3, g4⟩
        rw [hfin]
        obtain ⟨av6, kv6, rfl⟩ := hov6.val
        simp (maxSteps := 1000000) (disch := first | decide | omega | (simp only [go_sem]; first | done | omega)) only [go_sem, Int.reduceToNat, Nat.reduceMul, Nat.reduceAdd, Nat.reduceSub, ↓EU_region, ↓EU_draw, g3, g4]
        ((repeat refine WPo_ob ?_); (first | refine WPo_cond (fun b3 => ?_) (fun b3 => ?_) | refine WPo_gard (fun b3 => ?_) (fun b3 => ?_) | refine WPo_gardT (fun b3 => ?_) (fun b3 => ?_)) <;> (try simp only [Bool.not_eq_true', Bool.not_eq_false'] at b3))
        · simp (maxSteps := 1000000) (disch := first | decide | omega | (simp only [go_sem]; first | done | omega)) only [go_sem, Int.reduceToNat, Nat.reduceMul, Nat.reduceAdd, Nat.reduceSub, ↓EU_region, ↓EU_draw, b3, g3]
          rw [ifF_t]
          repeat refine WPo_ob ?_
          have hlit := OW.lit fltE_len h6 [(⟨7, -1⟩ : Flt)]
          rw [List.flatMap_cons, List.flatMap_nil, List.append_nil] at hlit
          unfold fltE at hlit
          refine append_gr (l := A6) (l' := [(⟨7, -1⟩ : Flt)]) fc_ap_122_122 fltE_len (by decide) fltE_scal (hov6.ext ((Ext.refl h6).push _)) hlit.sl (by simp only [List.length_append, List.length_cons, List.length_nil]; omega) (by simp only [List.length_append, List.length_cons, List.length_nil]; omega) fun v' h5 hov5 gr5 => ?_
          have grf := (gr6.push _).trans gr5
          obtain ⟨av7, kv7, rfl⟩ := hov5.val
          simp (maxSteps := 1000000) (disch := first | decide | omega | (simp only [go_sem]; first | done | omega)) only [go_sem, Int.reduceToNat, Nat.reduceMul, Nat.reduceAdd, Nat.reduceSub, ↓EU_region, ↓EU_draw, b3]
          exact ⟨hov5, by have := Fresh.gr grf (nil_blk _ _); rw [hn0] at this; exact this.mono (by omega), x0.trans (grf.ext0 (Ext.refl _) (Fresh.nil _ _ _))⟩
        · simp (maxSteps := 1000000) (disch := first | decide | omega | (simp only [go_sem]; first | done | omega)) only [go_sem, Int.reduceToNat, Nat.reduceMul, Nat.reduceAdd, Nat.reduceSub, ↓EU_region, ↓EU_draw, b3, g3]
          rw [ifF_f, List.append_nil]
          exact ⟨hov6, by have := Fresh.gr gr6 (nil_blk _ _); rw [hn0] at this; exact this.mono (by omega), x0.trans (gr6.ext0 (Ext.refl _) (Fresh.nil _ _ _))⟩
end Go.Proofs.YtddgcakiceodgaaGreat.EV
