/- Contracts: owed.Find, check.Form. No condition. Contract: check.Faults. No condition. -/
import Derived.Test.YtddgcakiceodgaaGreatM10
namespace Go.Proofs.YtddgcakiceodgaaGreat.EV
open Go Go.Proofs
set_option linter.unusedVariables false
set_option linter.unusedSimpArgs false
set_option maxRecDepth 100000
set_option pp.deepTerms false
set_option pp.deepTerms.threshold 20
theorem idx_any {α : Type} {p : α → Bool} {l : List α} (h : l.any p = true) : ∃ (i : Nat) (x : α), idx p l = i ∧ l[i]? = some x ∧ l.find? p = some x := by
  unfold idx
  cases hf : l.findIdx? p with
  | none =>
    rw [List.findIdx?_eq_none_iff] at hf
    obtain ⟨x, hx, hp⟩ := List.any_eq_true.1 h
    rw [hf x hx] at hp; cases hp
  | some i =>
    obtain ⟨h1, h2, h3⟩ := List.findIdx?_eq_some_iff_getElem.1 hf
    exact ⟨i, l[i], rfl, List.getElem?_eq_getElem h1, by
      rw [List.find?_eq_some_iff_getElem]
      exact ⟨h2, i, h1, rfl, fun j hj => by simpa using h3 j hj⟩⟩
theorem find_none {α : Type} {p : α → Bool} {l : List α} (h : l.any p = false) : l.find? p = none := by
  rw [List.find?_eq_none]
  intro x hx
  have := List.any_eq_false.1 h x hx
  simpa using this
/-- the item found, or none -/
noncomputable def fndR (id : Int) (l : List Item) : Item := (l.find? (byId id)).getD ⟨0, 0, 0⟩
theorem ofind_ev (cur : Int) (l : List Item) (s : Value) (id : Int) (h : Heap) (hs : SL itemE 3 h s l) (hl : l.length < 900000) :
    Pu (EF Tryz.prog O0 85 [formV cur s, .int .i64 id] h) h (.tuple ⟨[.agg ⟨itemE (fndR id l)⟩, .bool (l.any (byId id))]⟩) := by
  unfold Pu formV
  rw [EF_body (O := O0) (by kernel_rfl) Tryz.func85 rfl (rs := [.cell 4 43, .tmp 5]) rfl (bad := []) (by kernel_rfl) _ _ (m := 18) rfl]
  obtain ⟨a, c, hv⟩ := hs.val
  subst hv
  simp (disch := first|exact dis|fail) only [go_sem, Int.reduceToNat, Nat.reduceMul, Nat.reduceAdd, Nat.reduceSub, ↓EU_region, ↓EU_draw]
  repeat refine WPo_ob ?_
  refine (find_ev cur l _ id _ (hs.ext (((Ext.refl h).push _).push _)) hl).mono ?_
  rintro ⟨v, h1⟩ ⟨rfl, x1⟩
  simp only at x1
  have y1 : Ext h h1 := (((Ext.refl h).push _).push _).trans x1
  have hn1 := x1.le
  simp only [next_push] at hn1
  have c0 : h1.get h.next = .cells [.int .i64 cur, .slice a l.length c] 0 := by simp (disch := first|exact dis|fail) only [go_sem, Int.reduceToNat, Nat.reduceMul, Nat.reduceAdd, Nat.reduceSub, ↓EU_region, ↓EU_draw, x1.old]
  have c1 : h1.get (h.next + 1) = .cells [.int .i64 0, .int .i64 0, .int .i64 0] 0 := by simp (disch := first|exact dis|fail) only [go_sem, Int.reduceToNat, Nat.reduceMul, Nat.reduceAdd, Nat.reduceSub, ↓EU_region, ↓EU_draw, x1.old]
  cases q : l.any (byId id) with
  | true =>
    obtain ⟨i, x, e1, e2, e3⟩ := idx_any q
    have hx : fndR id l = x := by unfold fndR; rw [e3]; rfl
    rw [e1, hx]
    obtain ⟨b, o, c', e, hb', hrd, hr⟩ := (hs.ext y1).at e2 rfl
    cases e
    have hn : decide ((i : Int) < 0) = false := decide_eq_false (by omega)
    have hil := (List.getElem?_eq_some_iff.1 e2).1
    simp (disch := first|exact dis|fail) only [go_sem, Int.reduceToNat, Nat.reduceMul, Nat.reduceAdd, Nat.reduceSub, ↓EU_region, ↓EU_draw, dec_t, dec_f, hn, c0, c1, hrd]
    exact ⟨trivial, y1.set _ _ (by omega)⟩
  | false =>
    have hx : fndR id l = ⟨0, 0, 0⟩ := by unfold fndR; rw [find_none q]; rfl
    rw [hx]
    have hn : decide (idx (byId id) l < 0) = true := by rw [idx_neg, q]; rfl
    simp (disch := first|exact dis|fail) only [go_sem, Int.reduceToNat, Nat.reduceMul, Nat.reduceAdd, Nat.reduceSub, ↓EU_region, ↓EU_draw, dec_t, dec_f, hn, c0, c1]
    exact ⟨rfl, y1.set _ _ (by omega)⟩

structure Flt where
  kind : Int
  id : Int
deriving DecidableEq
noncomputable def fltE (f : Flt) : List Value := [.int .i64 f.kind, .int .i64 f.id]
@[go_sem] theorem fltE_len (x : Flt) : (fltE x).length = 2 := (rfl)
@[go_sem] theorem fltE_scal (x : Flt) : (fltE x).all scal = true := (rfl)
noncomputable def chkE (c : Int × Bool) : List Value := [.int .i64 c.1, .bool c.2]
@[go_sem] theorem chkE_len (x : Int × Bool) : (chkE x).length = 2 := (rfl)
@[go_sem] theorem chkE_scal (x : Int × Bool) : (chkE x).all scal = true := (rfl)
noncomputable def flts (id : Int) (cs : List (Int × Bool)) : List Flt := (cs.filter (·.2)).map fun c => ⟨c.1, id⟩
noncomputable def lagBad (x : Item) : Bool := decide (x.lag < -1125899906842624) || decide (1125899906842624 < x.lag)
noncomputable def idBad (x : Item) : Bool := decide (x.id < 0) || decide (1073741824 < x.id)
noncomputable def ordBad (p : Option Item) (x : Item) : Bool := match p with
  | none => false
  | some y => decide (x.id ≤ y.id)
noncomputable def chks (p : Option Item) (x : Item) : List (Int × Bool) := [(1, idBad x), (2, ordBad p x), (3, !wgood x.w), (4, lagBad x)]
noncomputable def fGo : Option Item → List Item → List Flt
  | _, [] => []
  | p, x :: l => flts x.id (chks p x) ++ fGo (some x) l
noncomputable def neg (x : Item) : Bool := decide (x.lag < 0)
/-- one fault laid behind, if so -/
noncomputable def ifF (b : Bool) (f : Flt) : List Flt := if b then [f] else []
theorem ifF_len (b : Bool) (f : Flt) : (ifF b f).length ≤ 1 := by unfold ifF; split <;> simp
theorem ifF_t (f : Flt) : ifF true f = [f] := rfl
theorem ifF_f (f : Flt) : ifF false f = [] := rfl
noncomputable def formF (cur : Int) (l : List Item) : List Flt := ((fGo none l ++ ifF (decide (64 < (l.length : Int))) ⟨5, l.length⟩) ++ ifF (!l.any (byId cur) && !decide (cur = -1)) ⟨6, cur⟩) ++ ifF (decide ((l.length : Int) > 0) && l.all neg) ⟨7, -1⟩
theorem flts_len (id : Int) (cs : List (Int × Bool)) : (flts id cs).length ≤ cs.length := by
  unfold flts
  rw [List.length_map]
  exact List.length_filter_le _ _
theorem fGo_len : ∀ (p : Option Item) (l : List Item), (fGo p l).length ≤ 4 * l.length
  | _, [] => Nat.zero_le _
  | p, x :: l => by
    have h1 := flts_len x.id (chks p x)
    have h2 := fGo_len (some x) l
    have h3 : (chks p x).length = 4 := rfl
    simp only [fGo, List.length_append, List.length_cons]
    omega
theorem formF_len (cur : Int) (l : List Item) : (formF cur l).length ≤ 4 * l.length + 3 := by
  have := fGo_len none l
  have h1 := ifF_len (decide (64 < (l.length : Int))) ⟨5, l.length⟩
  have h2 := ifF_len (!l.any (byId cur) && !decide (cur = -1)) ⟨6, cur⟩
  have h3 := ifF_len (decide ((l.length : Int) > 0) && l.all neg) ⟨7, -1⟩
  unfold formF
  simp only [List.length_append]
  omega
theorem Fresh.gr {s v : Value} {a b : Heap} (g : Gr s a v b) (hs : ∀ i, ¬ blkOf s i) : Fresh a.next v := g.fresh (fun i hi => (hs i hi).elim) (Nat.le_refl _)
theorem nil_blk (n m : Nat) (i : Nat) : ¬ blkOf (.slice none n m) i := fun h => h.elim
set_option maxHeartbeats 1000000 in
theorem form_ev (cur : Int) (l : List Item) (s : Value) (h : Heap) (hs : SL itemE 3 h s l) (hl : l.length < 900000) :
    WPo (EF Tryz.prog O0 84 [formV cur s] h) fun q => OW fltE 2 q.2 q.1 (formF cur l) ∧ Fresh h.next q.1 ∧ Ext h q.2 := by
  rw [EF_body (O := O0) (by kernel_rfl) Tryz.func84 rfl (rs := [.tmp 2]) rfl (bad := [6]) (by kernel_rfl) _ _ (m := 123) rfl]
  obtain ⟨a, c, hv⟩ := hs.val
  subst hv
  unfold formV
  simp (disch := first|exact dis|fail) only [go_sem, Int.reduceToNat, Nat.reduceMul, Nat.reduceAdd, Nat.reduceSub, ↓EU_region, ↓EU_draw]
  repeat refine WPo_ob ?_
  generalize hh0 : h.push (.cells [.int .i64 cur, .slice a l.length c] 0) = h0
  have x0 : Ext h h0 := by rw [← hh0]; exact (Ext.refl h).push _
  have hF0 : h0.get h.next = .cells [.int .i64 cur, .slice a l.length c] 0 := by rw [← hh0]; exact get_push_new _ _
  have hn0 : h0.next = h.next + 1 := by rw [← hh0]; exact next_push _ _
  clear hh0
  refine (LP_rule (fun m st => ∃ (i : Nat) (tm : Fr) (h2 : Heap) (u : Value) (acc : List Flt), st = ⟨tm, h2, []⟩ ∧ m = l.length - i ∧ i ≤ l.length ∧ Fr.get tm 1 = ptr h.next 0 ∧ Fr.get tm 3 = u ∧ Fr.get tm 4 = .bool (decide ((l.length : Int) > 0) && (l.take i).all neg) ∧ Fr.get tm 16 = .slice a l.length c ∧ Fr.get tm 17 = .int .i64 l.length ∧ Fr.get tm 18 = .int .i64 i ∧ OW fltE 2 h2 u acc ∧ Gr (.slice none 0 1) h0 u h2 ∧ acc.length ≤ 4 * i ∧ fGo none l = acc ++ fGo (prevAt l i) (l.drop i))
    (fun q => ∃ tm h2 u, q.2 = ⟨tm, h2, []⟩ ∧ q.1 = .exit 0 ∧ Fr.get tm 1 = ptr h.next 0 ∧ Fr.get tm 3 = u ∧ Fr.get tm 4 = .bool (decide ((l.length : Int) > 0) && l.all neg) ∧ OW fltE 2 h2 u (fGo none l) ∧ Gr (.slice none 0 1) h0 u h2) ?_ l.length _ _ ?_ ?_).mono ?_
  · rintro m _ ⟨i, tm, h2, u, acc, rfl, rfl, hi, g1, g3, g4, g16, g17, g18, hov, gr, hal, hgo⟩
    have hfv : Fresh (h.next + 1) u := by rw [← hn0]; exact Fresh.gr gr (nil_blk _ _)
    have x2 : Ext h h2 := x0.trans (gr.ext0 (Ext.refl _) (Fresh.nil _ _ _))
    have hF : h2.get h.next = .cells [.int .i64 cur, .slice a l.length c] 0 := (gr.old _ (by omega) (nil_blk _ _ _)).trans hF0
    have hn2 : h.next < h2.next := by have := gr.le; omega
    obtain ⟨av, kv, rfl⟩ := hov.val
    simp (disch := first|exact dis|fail) only [go_sem, Int.reduceToNat, Nat.reduceMul, Nat.reduceAdd, Nat.reduceSub, g1, g3, g4, g16, g17, g18]
    (first | rw [EU_region] | rw [EU_draw _ _ rfl]); simp (disch := first|exact dis|fail) only [go_sem, Int.reduceToNat, Nat.reduceMul, Nat.reduceAdd, Nat.reduceSub, g17, g18]
    ((repeat refine WPo_ob ?_); (first | refine WPo_cond (fun b1 => ?_) (fun b1 => ?_) | refine WPo_gard (fun b1 => ?_) (fun b1 => ?_) | refine WPo_gardT (fun b1 => ?_) (fun b1 => ?_)) <;> (try simp only [Bool.not_eq_true', Bool.not_eq_false'] at b1))
    · have b1' := b1
      simp only [decide_eq_true_eq] at b1'
      have hi' : i < l.length := by omega
      obtain ⟨x, hx⟩ : ∃ x, l[i]? = some x := ⟨_, List.getElem?_eq_getElem hi'⟩
      obtain ⟨b, o, c', e, hb', hrd, hr⟩ := (hs.ext x2).at hx rfl
      cases e
      simp (disch := first|exact dis|fail) only [go_sem, Int.reduceToNat, Nat.reduceMul, Nat.reduceAdd, Nat.reduceSub, g1, g3, g4, g16, g17, g18, hrd]
      (first | rw [EU_region] | rw [EU_draw _ _ rfl]); simp (disch := first|exact dis|fail) only [go_sem, Int.reduceToNat, Nat.reduceMul, Nat.reduceAdd, Nat.reduceSub, g1, g3, g4, g16, g17, g18, hrd]
      repeat refine WPo_ob ?_
      refine WPo.mono (Q := fun q => ∃ tm' h3 B, q = (.normal, ⟨tm', h3, []⟩) ∧ Ext (h2.push (.cells (itemE x) 0)) h3 ∧ h2.next < B ∧ B < h3.next ∧ h3.get B = .cells ((chks (prevAt l i) x).flatMap chkE) 2 ∧ Fr.get tm' 1 = ptr h.next 0 ∧ Fr.get tm' 3 = .slice av acc.length kv ∧ Fr.get tm' 4 = .bool (decide ((l.length : Int) > 0) && (l.take i).all neg) ∧ Fr.get tm' 6 = ptr h2.next 0 ∧ Fr.get tm' 16 = .slice (some ⟨b, o, none⟩) l.length c ∧ Fr.get tm' 17 = .int .i64 l.length ∧ Fr.get tm' 18 = .int .i64 i ∧ Fr.get tm' 62 = .slice (some ⟨B, 0, none⟩) 4 9 ∧ Fr.get tm' 63 = .int .i64 4 ∧ Fr.get tm' 64 = .int .i64 0) ?_ ?_
      · rw [EU_bad _ _ rfl, EC_tab (tab := [(false, none), (false, none), (false, none), (false, none), (false, none), (false, (some (0, 1))), (false, none), (false, none), (false, none), (false, none), (false, none), (false, none), (false, none), (false, (some (0, 1))), (false, none), (false, (some (0, 1))), (false, none), (false, none), (false, none), (false, none), (false, none), (false, (some (0, 1))), (false, none), (false, none), (false, none), (false, none), (false, none), (true, none), (false, none), (false, none), (false, none), (false, (some (0, 1))), (false, none), (false, none), (false, none), (false, none), (false, none), (false, none), (false, none), (true, none), (false, (some (1, 2))), (false, none)]) (by kernel_rfl)]
        rcases Nat.eq_zero_or_pos i with q0 | q0
        · have hp : prevAt l i = none := by unfold prevAt; rw [if_pos q0]
          have hz : decide ((i : Int) > 0) = false := decide_eq_false (by omega)
          rw [hp]
          simp (disch := first|exact dis|fail) only [go_sem, Int.reduceToNat, Nat.reduceMul, Nat.reduceAdd, Nat.reduceSub, ↓EU_region, ↓EU_draw, g1, g3, g4, g16, g17, g18, hrd, wGood_ev, hz]
          repeat' (((repeat refine WPo_ob ?_); (first | refine WPo_cond (fun hb => ?_) (fun hb => ?_) | refine WPo_gard (fun hb => ?_) (fun hb => ?_) | refine WPo_gardT (fun hb => ?_) (fun hb => ?_)) <;> (try simp only [Bool.not_eq_true', Bool.not_eq_false'] at hb)) <;> (simp (disch := first|exact dis|fail) only [go_sem, Int.reduceToNat, Nat.reduceMul, Nat.reduceAdd, Nat.reduceSub, ↓EU_region, ↓EU_draw, hb, g1, g3, g4, g16, g17, g18, hrd, wGood_ev, hz]))
          all_goals exact ⟨_, _, h2.next + 1, rfl, by repeat (first | exact Ext.refl _ | assumption | refine Ext.push ?_ _ | refine Ext.set ?_ _ _ (by first | omega | (simp only [next_push, next_set]; omega))), by omega, by simp only [next_push]; omega, by simp (disch := first|exact dis|fail) only [go_sem, Int.reduceToNat, Nat.reduceMul, Nat.reduceAdd, Nat.reduceSub, ↓EU_region, ↓EU_draw]; simp [chks, chkE, idBad, lagBad, ordBad, *], by simp (disch := first|exact dis|fail) only [go_sem, Int.reduceToNat, Nat.reduceMul, Nat.reduceAdd, Nat.reduceSub, ↓EU_region, ↓EU_draw, g1], by simp (disch := first|exact dis|fail) only [go_sem, Int.reduceToNat, Nat.reduceMul, Nat.reduceAdd, Nat.reduceSub, ↓EU_region, ↓EU_draw, g3], by simp (disch := first|exact dis|fail) only [go_sem, Int.reduceToNat, Nat.reduceMul, Nat.reduceAdd, Nat.reduceSub, ↓EU_region, ↓EU_draw, g4], by simp (disch := first|exact dis|fail) only [go_sem, Int.reduceToNat, Nat.reduceMul, Nat.reduceAdd, Nat.reduceSub, ↓EU_region, ↓EU_draw], by simp (disch := first|exact dis|fail) only [go_sem, Int.reduceToNat, Nat.reduceMul, Nat.reduceAdd, Nat.reduceSub, ↓EU_region, ↓EU_draw, g16], by simp (disch := first|exact dis|fail) only [go_sem, Int.reduceToNat, Nat.reduceMul, Nat.reduceAdd, Nat.reduceSub, ↓EU_region, ↓EU_draw, g17], by simp (disch := first|exact dis|fail) only [go_sem, Int.reduceToNat, Nat.reduceMul, Nat.reduceAdd, Nat.reduceSub, ↓EU_region, ↓EU_draw, g18], by simp (disch := first|exact dis|fail) only [go_sem, Int.reduceToNat, Nat.reduceMul, Nat.reduceAdd, Nat.reduceSub, ↓EU_region, ↓EU_draw], by simp (disch := first|exact dis|fail) only [go_sem, Int.reduceToNat, Nat.reduceMul, Nat.reduceAdd, Nat.reduceSub, ↓EU_region, ↓EU_draw]; rfl, by simp (disch := first|exact dis|fail) only [go_sem, Int.reduceToNat, Nat.reduceMul, Nat.reduceAdd, Nat.reduceSub, ↓EU_region, ↓EU_draw]⟩
        · obtain ⟨y, hy⟩ : ∃ y, l[i - 1]? = some y := ⟨_, List.getElem?_eq_getElem (by omega)⟩
          obtain ⟨_, _, _, e, _, _, hq⟩ := (hs.ext x2).at hy rfl
          cases e
          have hq0 := hq 0 _ rfl
          rw [add_z] at hq0
          have hp : prevAt l i = some y := by unfold prevAt; rw [if_neg (by omega), hy]
          have hz : decide ((i : Int) > 0) = true := decide_eq_true (by omega)
          have hmx : (if (0 : Int) > ((i - 1 : Nat) : Int) then (0 : Int) else ((i - 1 : Nat) : Int)) = ((i - 1 : Nat) : Int) := if_neg (by omega)
          rw [hp]
          have hw1 : wrapF .i64 ((i : Int) - 1) = ((i - 1 : Nat) : Int) := by rw [wrap64 (by omega)]; omega
          simp (disch := first|exact dis|fail) only [go_sem, Int.reduceToNat, Nat.reduceMul, Nat.reduceAdd, Nat.reduceSub, ↓EU_region, ↓EU_draw, g1, g3, g4, g16, g17, g18, hrd, wGood_ev, hz, hq0, hF, hw1, hmx]
          repeat' (((repeat refine WPo_ob ?_); (first | refine WPo_cond (fun hb => ?_) (fun hb => ?_) | refine WPo_gard (fun hb => ?_) (fun hb => ?_) | refine WPo_gardT (fun hb => ?_) (fun hb => ?_)) <;> (try simp only [Bool.not_eq_true', Bool.not_eq_false'] at hb)) <;> (simp (disch := first|exact dis|fail) only [go_sem, Int.reduceToNat, Nat.reduceMul, Nat.reduceAdd, Nat.reduceSub, ↓EU_region, ↓EU_draw, hb, g1, g3, g4, g16, g17, g18, hrd, wGood_ev, hz, hq0, hF, hw1, hmx]))
          all_goals exact ⟨_, _, h2.next + 1, rfl, by repeat (first | exact Ext.refl _ | assumption | refine Ext.push ?_ _ | refine Ext.set ?_ _ _ (by first | omega | (simp only [next_push, next_set]; omega))), by omega, by simp only [next_push]; omega, by simp (disch := first|exact dis|fail) only [go_sem, Int.reduceToNat, Nat.reduceMul, Nat.reduceAdd, Nat.reduceSub, ↓EU_region, ↓EU_draw]; simp [chks, chkE, idBad, lagBad, ordBad, *], by simp (disch := first|exact dis|fail) only [go_sem, Int.reduceToNat, Nat.reduceMul, Nat.reduceAdd, Nat.reduceSub, ↓EU_region, ↓EU_draw, g1], by simp (disch := first|exact dis|fail) only [go_sem, Int.reduceToNat, Nat.reduceMul, Nat.reduceAdd, Nat.reduceSub, ↓EU_region, ↓EU_draw, g3], by simp (disch := first|exact dis|fail) only [go_sem, Int.reduceToNat, Nat.reduceMul, Nat.reduceAdd, Nat.reduceSub, ↓EU_region, ↓EU_draw, g4], by simp (disch := first|exact dis|fail) only [go_sem, Int.reduceToNat, Nat.reduceMul, Nat.reduceAdd, Nat.reduceSub, ↓EU_region, ↓EU_draw], by simp (disch := first|exact dis|fail) only [go_sem, Int.reduceToNat, Nat.reduceMul, Nat.reduceAdd, Nat.reduceSub, ↓EU_region, ↓EU_draw, g16], by simp (disch := first|exact dis|fail) only [go_sem, Int.reduceToNat, Nat.reduceMul, Nat.reduceAdd, Nat.reduceSub, ↓EU_region, ↓EU_draw, g17], by simp (disch := first|exact dis|fail) only [go_sem, Int.reduceToNat, Nat.reduceMul, Nat.reduceAdd, Nat.reduceSub, ↓EU_region, ↓EU_draw, g18], by simp (disch := first|exact dis|fail) only [go_sem, Int.reduceToNat, Nat.reduceMul, Nat.reduceAdd, Nat.reduceSub, ↓EU_region, ↓EU_draw], by simp (disch := first|exact dis|fail) only [go_sem, Int.reduceToNat, Nat.reduceMul, Nat.reduceAdd, Nat.reduceSub, ↓EU_region, ↓EU_draw]; rfl, by simp (disch := first|exact dis|fail) only [go_sem, Int.reduceToNat, Nat.reduceMul, Nat.reduceAdd, Nat.reduceSub, ↓EU_region, ↓EU_draw]⟩
      · clear g1 g3 g4 g16 g17 g18
        rintro _ ⟨tm', h3, B, rfl, x3, hB1, hB2, hB, k1, k3, k4, k6, k16, k17, k18, k62, k63, k64⟩
        have hn3 := x3.le
        simp only [next_push] at hn3
        have y3 : Ext h2 h3 := ((Ext.refl h2).push _).trans x3
        have hX3 : h3.get h2.next = .cells (itemE x) 0 := by rw [x3.old _ (by rw [next_push]; omega)]; exact get_push_new _ _
        have hgo2 : fGo none l = acc ++ (flts x.id (chks (prevAt l i) x) ++ fGo (some x) (l.drop (i + 1))) := by rw [hgo, drop_at hx]; rfl
        have sC : SL chkE 2 h3 (.slice (some ⟨B, 0, none⟩) 4 9) (chks (prevAt l i) x) := (OW.new (e := chkE) (l := chks (prevAt l i) x) (fun _ => rfl) hB2 hB rfl rfl).sl
        have hcl : (chks (prevAt l i) x).length = 4 := rfl
        generalize chks (prevAt l i) x = cs at *
        simp (disch := first|exact dis|fail) only [go_sem, Int.reduceToNat, Nat.reduceMul, Nat.reduceAdd, Nat.reduceSub, k1, k3, k4, k6, k16, k17, k18, k62, k63, k64]
        repeat refine WPo_ob ?_
        refine (LP_rule (fun m st => ∃ (k : Nat) (tm2 : Fr) (h4 : Heap) (u : Value) (ac2 : List Flt), st = ⟨tm2, h4, []⟩ ∧ m = 4 - k ∧ k ≤ 4 ∧ Fr.get tm2 1 = ptr h.next 0 ∧ Fr.get tm2 3 = u ∧ Fr.get tm2 4 = .bool (decide ((l.length : Int) > 0) && (l.take i).all neg) ∧ Fr.get tm2 6 = ptr h2.next 0 ∧ Fr.get tm2 16 = .slice (some ⟨b, o, none⟩) l.length c ∧ Fr.get tm2 17 = .int .i64 l.length ∧ Fr.get tm2 18 = .int .i64 i ∧ Fr.get tm2 62 = .slice (some ⟨B, 0, none⟩) 4 9 ∧ Fr.get tm2 63 = .int .i64 4 ∧ Fr.get tm2 64 = .int .i64 k ∧ OW fltE 2 h4 u ac2 ∧ ac2 = acc ++ flts x.id (cs.take k) ∧ Gr (.slice av acc.length kv) h3 u h4)
          (fun q => ∃ (tm2 : Fr) (h4 : Heap) (u : Value), q.2 = ⟨tm2, h4, []⟩ ∧ q.1 = .exit 2 ∧ Fr.get tm2 1 = ptr h.next 0 ∧ Fr.get tm2 3 = u ∧ Fr.get tm2 4 = .bool (decide ((l.length : Int) > 0) && (l.take i).all neg) ∧ Fr.get tm2 6 = ptr h2.next 0 ∧ Fr.get tm2 16 = .slice (some ⟨b, o, none⟩) l.length c ∧ Fr.get tm2 17 = .int .i64 l.length ∧ Fr.get tm2 18 = .int .i64 i ∧ OW fltE 2 h4 u (acc ++ flts x.id cs) ∧ Gr (.slice av acc.length kv) h3 u h4) ?_ 4 _ _ ?_ ?_).mono ?_
        · clear k1 k3 k4 k6 k16 k17 k18 k62 k63 k64
          rintro m _ ⟨k, tm2, h4, u, ac2, rfl, rfl, hk, k1, k3, k4, k6, k16, k17, k18, k62, k63, k64, hov4, hac, gr4⟩
          have hn4 := gr4.le
          have hX4 : h4.get h2.next = .cells (itemE x) 0 := (gr4.old _ (by omega) (fun q => by have := hov.lt q; omega)).trans hX3
          have sC4 : SL chkE 2 h4 (.slice (some ⟨B, 0, none⟩) 4 9) cs := sC.modB gr4.mod (fun j hj q => by have := hov.lt q; cases hj; omega)
          have hfu : Fresh (h.next + 1) u := gr4.fresh hfv (by omega)
          have hul : ∀ j, blkOf u j → j < h2.next ∨ h3.next ≤ j := fun j hj => (gr4.src j hj).imp (fun q => hov.lt q) id
          obtain ⟨au, ku, rfl⟩ := hov4.val
          simp (disch := first|exact dis|fail) only [go_sem, Int.reduceToNat, Nat.reduceMul, Nat.reduceAdd, Nat.reduceSub, k1, k3, k4, k6, k16, k17, k18, k62, k63, k64]
          (first | rw [EU_region] | rw [EU_draw _ _ rfl]); simp (disch := first|exact dis|fail) only [go_sem, Int.reduceToNat, Nat.reduceMul, Nat.reduceAdd, Nat.reduceSub, k63, k64]
          ((repeat refine WPo_ob ?_); (first | refine WPo_cond (fun b2 => ?_) (fun b2 => ?_) | refine WPo_gard (fun b2 => ?_) (fun b2 => ?_) | refine WPo_gardT (fun b2 => ?_) (fun b2 => ?_)) <;> (try simp only [Bool.not_eq_true', Bool.not_eq_false'] at b2))
          · have b2' := b2
            simp only [decide_eq_true_eq] at b2'
            have hk' : k < cs.length := by omega
            obtain ⟨kd, hkd⟩ : ∃ x, cs[k]? = some x := ⟨_, List.getElem?_eq_getElem hk'⟩
            obtain ⟨B', o', c', e, hb2, hrk, hrk1⟩ := sC4.at hkd rfl
            rw [hcl] at e
            cases e
            obtain ⟨kk, kb⟩ := kd
            have htk : cs.take (k + 1) = cs.take k ++ [(kk, kb)] := by rw [List.take_add_one, hkd]; rfl
            rw [Nat.zero_add] at hrk
            simp only [chkE] at hrk
            have hft : flts x.id (cs.take (k + 1)) = flts x.id (cs.take k) ++ (if kb then [⟨kk, x.id⟩] else []) := by rw [htk]; unfold flts; rw [List.filter_append, List.map_append]; cases kb <;> rfl
            have hfl := flts_len x.id (cs.take k)
            rw [List.length_take] at hfl
            simp (disch := first|exact dis|fail) only [go_sem, Int.reduceToNat, Nat.reduceMul, Nat.reduceAdd, Nat.reduceSub, ↓EU_region, ↓EU_draw, k1, k3, k4, k6, k16, k17, k18, k62, k63, k64, hrk, hX4]
            have hwk : wrapF .i64 ((k : Int) + 1) = ((k + 1 : Nat) : Int) := by rw [wrap64 (by omega)]; omega
            cases kb with
            | false =>
              simp (disch := first|exact dis|fail) only [go_sem, Int.reduceToNat, Nat.reduceMul, Nat.reduceAdd, Nat.reduceSub, ↓EU_region, ↓EU_draw, k1, k3, k4, k6, k16, k17, k18, k62, k63, k64, hX4, hwk]
              exact ⟨_, by omega, k + 1, _, _, _, ac2, rfl, rfl, by omega, by simp (disch := first|exact dis|fail) only [go_sem, Int.reduceToNat, Nat.reduceMul, Nat.reduceAdd, Nat.reduceSub, ↓EU_region, ↓EU_draw, k1], by simp (disch := first|exact dis|fail) only [go_sem, Int.reduceToNat, Nat.reduceMul, Nat.reduceAdd, Nat.reduceSub, ↓EU_region, ↓EU_draw, k3], by simp (disch := first|exact dis|fail) only [go_sem, Int.reduceToNat, Nat.reduceMul, Nat.reduceAdd, Nat.reduceSub, ↓EU_region, ↓EU_draw, k4], by simp (disch := first|exact dis|fail) only [go_sem, Int.reduceToNat, Nat.reduceMul, Nat.reduceAdd, Nat.reduceSub, ↓EU_region, ↓EU_draw, k6], by simp (disch := first|exact dis|fail) only [go_sem, Int.reduceToNat, Nat.reduceMul, Nat.reduceAdd, Nat.reduceSub, ↓EU_region, ↓EU_draw, k16], by simp (disch := first|exact dis|fail) only [go_sem, Int.reduceToNat, Nat.reduceMul, Nat.reduceAdd, Nat.reduceSub, ↓EU_region, ↓EU_draw, k17], by simp (disch := first|exact dis|fail) only [go_sem, Int.reduceToNat, Nat.reduceMul, Nat.reduceAdd, Nat.reduceSub, ↓EU_region, ↓EU_draw, k18], by simp (disch := first|exact dis|fail) only [go_sem, Int.reduceToNat, Nat.reduceMul, Nat.reduceAdd, Nat.reduceSub, ↓EU_region, ↓EU_draw, k62], by simp (disch := first|exact dis|fail) only [go_sem, Int.reduceToNat, Nat.reduceMul, Nat.reduceAdd, Nat.reduceSub, ↓EU_region, ↓EU_draw, k63], by simp (disch := first|exact dis|fail) only [go_sem, Int.reduceToNat, Nat.reduceMul, Nat.reduceAdd, Nat.reduceSub, ↓EU_region, ↓EU_draw], hov4.ext ((Ext.refl _).push _), by rw [hac, hft]; simp, gr4.push _⟩
            | true =>
              simp (disch := first|exact dis|fail) only [go_sem, Int.reduceToNat, Nat.reduceMul, Nat.reduceAdd, Nat.reduceSub, ↓EU_region, ↓EU_draw, k1, k3, k4, k6, k16, k17, k18, k62, k63, k64, hX4, hwk]
              repeat refine WPo_ob ?_
              have hlit := OW.lit fltE_len (h4.push (.cells [.int .i64 kk, .bool true] 0)) [(⟨kk, x.id⟩ : Flt)]
              rw [List.flatMap_cons, List.flatMap_nil, List.append_nil] at hlit
              unfold fltE at hlit
              refine append_gr (l := ac2) (l' := [(⟨kk, x.id⟩ : Flt)]) fc_ap_122_122 fltE_len (by decide) fltE_scal (hov4.ext (((Ext.refl h4).push _).push _)) hlit.sl (by rw [hac, List.length_append]; simp only [List.length_cons, List.length_nil]; omega) (by rw [hac, List.length_append]; simp only [List.length_cons, List.length_nil]; omega) fun v' h5 hov5 gr5 => ?_
              have hac' : ac2 ++ [(⟨kk, x.id⟩ : Flt)] = acc ++ flts x.id (cs.take (k + 1)) := by rw [hac, hft]; simp
              simp (disch := first|exact dis|fail) only [go_sem, Int.reduceToNat, Nat.reduceMul, Nat.reduceAdd, Nat.reduceSub, ↓EU_region, ↓EU_draw, k1, k3, k4, k6, k16, k17, k18, k62, k63, k64, hwk]
              exact ⟨_, by omega, k + 1, _, _, _, _, rfl, rfl, by omega, by simp (disch := first|exact dis|fail) only [go_sem, Int.reduceToNat, Nat.reduceMul, Nat.reduceAdd, Nat.reduceSub, ↓EU_region, ↓EU_draw, k1], by simp (disch := first|exact dis|fail) only [go_sem, Int.reduceToNat, Nat.reduceMul, Nat.reduceAdd, Nat.reduceSub, ↓EU_region, ↓EU_draw], by simp (disch := first|exact dis|fail) only [go_sem, Int.reduceToNat, Nat.reduceMul, Nat.reduceAdd, Nat.reduceSub, ↓EU_region, ↓EU_draw, k4], by simp (disch := first|exact dis|fail) only [go_sem, Int.reduceToNat, Nat.reduceMul, Nat.reduceAdd, Nat.reduceSub, ↓EU_region, ↓EU_draw, k6], by simp (disch := first|exact dis|fail) only [go_sem, Int.reduceToNat, Nat.reduceMul, Nat.reduceAdd, Nat.reduceSub, ↓EU_region, ↓EU_draw, k16], by simp (disch := first|exact dis|fail) only [go_sem, Int.reduceToNat, Nat.reduceMul, Nat.reduceAdd, Nat.reduceSub, ↓EU_region, ↓EU_draw, k17], by simp (disch := first|exact dis|fail) only [go_sem, Int.reduceToNat, Nat.reduceMul, Nat.reduceAdd, Nat.reduceSub, ↓EU_region, ↓EU_draw, k18], by simp (disch := first|exact dis|fail) only [go_sem, Int.reduceToNat, Nat.reduceMul, Nat.reduceAdd, Nat.reduceSub, ↓EU_region, ↓EU_draw, k62], by simp (disch := first|exact dis|fail) only [go_sem, Int.reduceToNat, Nat.reduceMul, Nat.reduceAdd, Nat.reduceSub, ↓EU_region, ↓EU_draw, k63], by simp (disch := first|exact dis|fail) only [go_sem, Int.reduceToNat, Nat.reduceMul, Nat.reduceAdd, Nat.reduceSub, ↓EU_region, ↓EU_draw], hov5, hac', ((gr4.push _).push _).trans gr5⟩
          · simp only [decide_eq_false_iff_not] at b2
            have : k = 4 := by omega
            subst this
            rw [List.take_of_length_le (by omega)] at hac
            subst hac
            simp (disch := first|exact dis|fail) only [go_sem, Int.reduceToNat, Nat.reduceMul, Nat.reduceAdd, Nat.reduceSub, ↓EU_region, ↓EU_draw]
            exact ⟨_, _, _, rfl, trivial, by simp (disch := first|exact dis|fail) only [go_sem, Int.reduceToNat, Nat.reduceMul, Nat.reduceAdd, Nat.reduceSub, ↓EU_region, ↓EU_draw, k1], by simp (disch := first|exact dis|fail) only [go_sem, Int.reduceToNat, Nat.reduceMul, Nat.reduceAdd, Nat.reduceSub, ↓EU_region, ↓EU_draw, k3], by simp (disch := first|exact dis|fail) only [go_sem, Int.reduceToNat, Nat.reduceMul, Nat.reduceAdd, Nat.reduceSub, ↓EU_region, ↓EU_draw, k4], by simp (disch := first|exact dis|fail) only [go_sem, Int.reduceToNat, Nat.reduceMul, Nat.reduceAdd, Nat.reduceSub, ↓EU_region, ↓EU_draw, k6], by simp (disch := first|exact dis|fail) only [go_sem, Int.reduceToNat, Nat.reduceMul, Nat.reduceAdd, Nat.reduceSub, ↓EU_region, ↓EU_draw, k16], by simp (disch := first|exact dis|fail) only [go_sem, Int.reduceToNat, Nat.reduceMul, Nat.reduceAdd, Nat.reduceSub, ↓EU_region, ↓EU_draw, k17], by simp (disch := first|exact dis|fail) only [go_sem, Int.reduceToNat, Nat.reduceMul, Nat.reduceAdd, Nat.reduceSub, ↓EU_region, ↓EU_draw, k18], hov4, gr4⟩
        · exact ⟨0, _, _, _, acc, rfl, rfl, by omega, by simp (disch := first|exact dis|fail) only [go_sem, Int.reduceToNat, Nat.reduceMul, Nat.reduceAdd, Nat.reduceSub, ↓EU_region, ↓EU_draw, k1], by simp (disch := first|exact dis|fail) only [go_sem, Int.reduceToNat, Nat.reduceMul, Nat.reduceAdd, Nat.reduceSub, ↓EU_region, ↓EU_draw, k3], by simp (disch := first|exact dis|fail) only [go_sem, Int.reduceToNat, Nat.reduceMul, Nat.reduceAdd, Nat.reduceSub, ↓EU_region, ↓EU_draw, k4], by simp (disch := first|exact dis|fail) only [go_sem, Int.reduceToNat, Nat.reduceMul, Nat.reduceAdd, Nat.reduceSub, ↓EU_region, ↓EU_draw, k6], by simp (disch := first|exact dis|fail) only [go_sem, Int.reduceToNat, Nat.reduceMul, Nat.reduceAdd, Nat.reduceSub, ↓EU_region, ↓EU_draw, k16], by simp (disch := first|exact dis|fail) only [go_sem, Int.reduceToNat, Nat.reduceMul, Nat.reduceAdd, Nat.reduceSub, ↓EU_region, ↓EU_draw, k17], by simp (disch := first|exact dis|fail) only [go_sem, Int.reduceToNat, Nat.reduceMul, Nat.reduceAdd, Nat.reduceSub, ↓EU_region, ↓EU_draw, k18], by simp (disch := first|exact dis|fail) only [go_sem, Int.reduceToNat, Nat.reduceMul, Nat.reduceAdd, Nat.reduceSub, ↓EU_region, ↓EU_draw, k62], by simp (disch := first|exact dis|fail) only [go_sem, Int.reduceToNat, Nat.reduceMul, Nat.reduceAdd, Nat.reduceSub, ↓EU_region, ↓EU_draw, k63], by simp (disch := first|exact dis|fail) only [go_sem, Int.reduceToNat, Nat.reduceMul, Nat.reduceAdd, Nat.reduceSub, ↓EU_region, ↓EU_draw, k64]; rfl, hov.ext y3, by simp [flts], Gr.refl _ _⟩
        · omega
        · clear k1 k3 k4 k6 k16 k17 k18 k62 k63 k64
          rintro ⟨q, _⟩ ⟨tm2, h4, u, rfl, rfl, k1, k3, k4, k6, k16, k17, k18, hov4, gr4⟩
          have hn4 := gr4.le
          have hX4 : h4.get h2.next = .cells (itemE x) 0 := (gr4.old _ (by omega) (fun q => by have := hov.lt q; omega)).trans hX3
          obtain ⟨au, ku, rfl⟩ := hov4.val
          have hgr : Gr (.slice none 0 1) h0 (.slice au (acc ++ flts x.id cs).length ku) h4 := (gr.ext y3).trans gr4
          have hpr : prevAt l (i + 1) = some x := by unfold prevAt; rw [if_neg (by omega), Nat.add_sub_cancel, hx]
          have hfl := flts_len x.id cs
          have hta : (l.take (i + 1)).all neg = ((l.take i).all neg && neg x) := by rw [List.take_add_one, hx]; simp
          have hwi : wrapF .i64 ((i : Int) + 1) = ((i + 1 : Nat) : Int) := by rw [wrap64 (by omega)]; omega
          have hg : decide (x.lag < 0) = neg x := rfl
          simp (disch := first|exact dis|fail) only [go_sem, Int.reduceToNat, Nat.reduceMul, Nat.reduceAdd, Nat.reduceSub, ↓EU_region, ↓EU_draw, k1, k3, k4, k6, k16, k17, k18, hX4, hwi]
          repeat' (((repeat refine WPo_ob ?_); (first | refine WPo_cond (fun hb => ?_) (fun hb => ?_) | refine WPo_gard (fun hb => ?_) (fun hb => ?_) | refine WPo_gardT (fun hb => ?_) (fun hb => ?_)) <;> (try simp only [Bool.not_eq_true', Bool.not_eq_false'] at hb)) <;> (simp (disch := first|exact dis|fail) only [go_sem, Int.reduceToNat, Nat.reduceMul, Nat.reduceAdd, Nat.reduceSub, ↓EU_region, ↓EU_draw, hb, k1, k3, k4, k6, k16, k17, k18, hX4, hwi]))
          all_goals exact ⟨_, by omega, i + 1, _, _, _, acc ++ flts x.id cs, rfl, rfl, by omega, by simp (disch := first|exact dis|fail) only [go_sem, Int.reduceToNat, Nat.reduceMul, Nat.reduceAdd, Nat.reduceSub, ↓EU_region, ↓EU_draw, k1], by simp (disch := first|exact dis|fail) only [go_sem, Int.reduceToNat, Nat.reduceMul, Nat.reduceAdd, Nat.reduceSub, ↓EU_region, ↓EU_draw, k3], by simp (disch := first|exact dis|fail) only [go_sem, Int.reduceToNat, Nat.reduceMul, Nat.reduceAdd, Nat.reduceSub, ↓EU_region, ↓EU_draw]; rw [hta, ← Bool.and_assoc, hb]; rfl, by simp (disch := first|exact dis|fail) only [go_sem, Int.reduceToNat, Nat.reduceMul, Nat.reduceAdd, Nat.reduceSub, ↓EU_region, ↓EU_draw, k16], by simp (disch := first|exact dis|fail) only [go_sem, Int.reduceToNat, Nat.reduceMul, Nat.reduceAdd, Nat.reduceSub, ↓EU_region, ↓EU_draw, k17], by simp (disch := first|exact dis|fail) only [go_sem, Int.reduceToNat, Nat.reduceMul, Nat.reduceAdd, Nat.reduceSub, ↓EU_region, ↓EU_draw], hov4, hgr, by rw [List.length_append]; omega, by rw [hgo2, hpr, List.append_assoc]⟩
    · simp only [decide_eq_false_iff_not] at b1
      have : i = l.length := by omega
      subst this
      rw [List.take_length] at g4
      have he : fGo none l = acc := by
        rw [hgo, List.drop_length]
        cases prevAt l l.length <;> simp [fGo]
      subst he
      simp (disch := first|exact dis|fail) only [go_sem, Int.reduceToNat, Nat.reduceMul, Nat.reduceAdd, Nat.reduceSub, ↓EU_region, ↓EU_draw]
      exact ⟨_, _, _, rfl, trivial, by simp (disch := first|exact dis|fail) only [go_sem, Int.reduceToNat, Nat.reduceMul, Nat.reduceAdd, Nat.reduceSub, ↓EU_region, ↓EU_draw, g1], by simp (disch := first|exact dis|fail) only [go_sem, Int.reduceToNat, Nat.reduceMul, Nat.reduceAdd, Nat.reduceSub, ↓EU_region, ↓EU_draw, g3], by simp (disch := first|exact dis|fail) only [go_sem, Int.reduceToNat, Nat.reduceMul, Nat.reduceAdd, Nat.reduceSub, ↓EU_region, ↓EU_draw, g4], hov, gr⟩
  · exact ⟨0, _, _, _, [], rfl, rfl, by omega, by simp (disch := first|exact dis|fail) only [go_sem, Int.reduceToNat, Nat.reduceMul, Nat.reduceAdd, Nat.reduceSub, ↓EU_region, ↓EU_draw], by simp (disch := first|exact dis|fail) only [go_sem, Int.reduceToNat, Nat.reduceMul, Nat.reduceAdd, Nat.reduceSub, ↓EU_region, ↓EU_draw], by simp (disch := first|exact dis|fail) only [go_sem, Int.reduceToNat, Nat.reduceMul, Nat.reduceAdd, Nat.reduceSub, ↓EU_region, ↓EU_draw]; simp, by simp (disch := first|exact dis|fail) only [go_sem, Int.reduceToNat, Nat.reduceMul, Nat.reduceAdd, Nat.reduceSub, ↓EU_region, ↓EU_draw], by simp (disch := first|exact dis|fail) only [go_sem, Int.reduceToNat, Nat.reduceMul, Nat.reduceAdd, Nat.reduceSub, ↓EU_region, ↓EU_draw], by simp (disch := first|exact dis|fail) only [go_sem, Int.reduceToNat, Nat.reduceMul, Nat.reduceAdd, Nat.reduceSub, ↓EU_region, ↓EU_draw]; rfl, OW.nil, Gr.refl _ _, by simp, rfl⟩
  · omega
  · rintro ⟨q, _⟩ ⟨tm, h2, u, rfl, rfl, g1, g3, g4, hov, gr⟩
    have hfv : Fresh (h.next + 1) u := by rw [← hn0]; exact Fresh.gr gr (nil_blk _ _)
    have x2 : Ext h h2 := x0.trans (gr.ext0 (Ext.refl _) (Fresh.nil _ _ _))
    have hF : h2.get h.next = .cells [.int .i64 cur, .slice a l.length c] 0 := (gr.old _ (by omega) (nil_blk _ _ _)).trans hF0
    have hn2 : h.next < h2.next := by have := gr.le; omega
    have hgl := fGo_len none l
    obtain ⟨av, kv, rfl⟩ := hov.val
    simp (disch := first|exact dis|fail) only [go_sem, Int.reduceToNat, Nat.reduceMul, Nat.reduceAdd, Nat.reduceSub, ↓EU_region, ↓EU_draw, g1, g3, g4, hF]
    repeat refine WPo_ob ?_
    refine WPo.mono (Q := fun q => ∃ tm' h3 u3, q = (.normal, ⟨tm', h3, []⟩) ∧ OW fltE 2 h3 u3 (fGo none l ++ ifF (decide (64 < (l.length : Int))) ⟨5, l.length⟩) ∧ Gr (.slice none 0 1) h0 u3 h3 ∧ Fr.get tm' 1 = ptr h.next 0 ∧ Fr.get tm' 3 = u3 ∧ Fr.get tm' 4 = .bool (decide ((l.length : Int) > 0) && l.all neg)) ?_ ?_
    · ((repeat refine WPo_ob ?_); (first | refine WPo_cond (fun b1 => ?_) (fun b1 => ?_) | refine WPo_gard (fun b1 => ?_) (fun b1 => ?_) | refine WPo_gardT (fun b1 => ?_) (fun b1 => ?_)) <;> (try simp only [Bool.not_eq_true', Bool.not_eq_false'] at b1))
      · simp (disch := first|exact dis|fail) only [go_sem, Int.reduceToNat, Nat.reduceMul, Nat.reduceAdd, Nat.reduceSub, ↓EU_region, ↓EU_draw, b1, g1, g3, g4, hF]
        rw [ifF_t]
        repeat refine WPo_ob ?_
        have hlit := OW.lit fltE_len h2 [(⟨5, l.length⟩ : Flt)]
        rw [List.flatMap_cons, List.flatMap_nil, List.append_nil] at hlit
        unfold fltE at hlit
        refine append_gr (l := fGo none l) (l' := [(⟨5, l.length⟩ : Flt)]) fc_ap_122_122 fltE_len (by decide) fltE_scal (hov.ext ((Ext.refl h2).push _)) hlit.sl (by simp only [List.length_append, List.length_cons, List.length_nil]; omega) (by simp only [List.length_append, List.length_cons, List.length_nil]; omega) fun v' h5 hov5 gr5 => ?_
        simp (disch := first|exact dis|fail) only [go_sem, Int.reduceToNat, Nat.reduceMul, Nat.reduceAdd, Nat.reduceSub, ↓EU_region, ↓EU_draw, b1, g1, g3, g4, hF]
        exact ⟨_, _, _, rfl, hov5, (gr.push _).trans gr5, by simp (disch := first|exact dis|fail) only [go_sem, Int.reduceToNat, Nat.reduceMul, Nat.reduceAdd, Nat.reduceSub, ↓EU_region, ↓EU_draw, g1], by simp (disch := first|exact dis|fail) only [go_sem, Int.reduceToNat, Nat.reduceMul, Nat.reduceAdd, Nat.reduceSub, ↓EU_region, ↓EU_draw], by simp (disch := first|exact dis|fail) only [go_sem, Int.reduceToNat, Nat.reduceMul, Nat.reduceAdd, Nat.reduceSub, ↓EU_region, ↓EU_draw, g4]⟩
      · simp (disch := first|exact dis|fail) only [go_sem, Int.reduceToNat, Nat.reduceMul, Nat.reduceAdd, Nat.reduceSub, ↓EU_region, ↓EU_draw, b1]
        rw [ifF_f]
        exact ⟨_, _, _, rfl, by rw [List.append_nil]; exact hov, gr, by simp (disch := first|exact dis|fail) only [go_sem, Int.reduceToNat, Nat.reduceMul, Nat.reduceAdd, Nat.reduceSub, ↓EU_region, ↓EU_draw, g1], by simp (disch := first|exact dis|fail) only [go_sem, Int.reduceToNat, Nat.reduceMul, Nat.reduceAdd, Nat.reduceSub, ↓EU_region, ↓EU_draw, g3], by simp (disch := first|exact dis|fail) only [go_sem, Int.reduceToNat, Nat.reduceMul, Nat.reduceAdd, Nat.reduceSub, ↓EU_region, ↓EU_draw, g4]⟩
    · clear g1 g3 g4 x2 hF hn2 hfv
      have hl5 := ifF_len (decide (64 < (l.length : Int))) ⟨5, l.length⟩
      generalize hA : fGo none l ++ ifF (decide (64 < (l.length : Int))) ⟨5, l.length⟩ = A5
      have hA5 : A5.length ≤ 4 * l.length + 1 := by rw [← hA, List.length_append]; omega
      rintro _ ⟨tm', h3, u3, rfl, hov3, gr3, g1, g3, g4⟩
      have hfv : Fresh (h.next + 1) u3 := by rw [← hn0]; exact Fresh.gr gr3 (nil_blk _ _)
      have x3 : Ext h h3 := x0.trans (gr3.ext0 (Ext.refl _) (Fresh.nil _ _ _))
      have hF : h3.get h.next = .cells [.int .i64 cur, .slice a l.length c] 0 := (gr3.old _ (by omega) (nil_blk _ _ _)).trans hF0
      have hn3 : h.next < h3.next := by have := gr3.le; omega
      obtain ⟨av3, kv3, rfl⟩ := hov3.val
      have hfd := ofind_ev cur l (.slice a l.length c) cur h3 (hs.ext x3) hl
      unfold formV at hfd
      simp (disch := first|exact dis|fail) only [go_sem, Int.reduceToNat, Nat.reduceMul, Nat.reduceAdd, Nat.reduceSub, ↓EU_region, ↓EU_draw, g1, g3, g4, hF]
      repeat refine WPo_ob ?_
      refine hfd.bind fun h4 x4 => ?_
      have hn4 := x4.le
      have hF4 : h4.get h.next = .cells [.int .i64 cur, .slice a l.length c] 0 := (x4.old _ hn3).trans hF
      have hov4 := hov3.ext x4
      have gr4 := gr3.ext x4
      clear hF hov3 gr3
      simp (disch := first|exact dis|fail) only [go_sem, Int.reduceToNat, Nat.reduceMul, Nat.reduceAdd, Nat.reduceSub, ↓EU_region, ↓EU_draw, g1, g3, g4, hF4]
      refine WPo.mono (Q := fun q => ∃ tm' h5 u5, q = (.normal, ⟨tm', h5, []⟩) ∧ OW fltE 2 h5 u5 (A5 ++ ifF (!l.any (byId cur) && !decide (cur = -1)) ⟨6, cur⟩) ∧ Gr (.slice none 0 1) h0 u5 h5 ∧ Fr.get tm' 3 = u5 ∧ Fr.get tm' 4 = .bool (decide ((l.length : Int) > 0) && l.all neg)) ?_ ?_
      · cases hq : l.any (byId cur) with
        | true =>
          simp (disch := first|exact dis|fail) only [go_sem, Int.reduceToNat, Nat.reduceMul, Nat.reduceAdd, Nat.reduceSub, ↓EU_region, ↓EU_draw, g1, g3, g4, hF4]
          exact ⟨_, _, _, rfl, by rw [ifF_f, List.append_nil]; exact hov4.ext ((Ext.refl _).push _), gr4.push _, by simp (disch := first|exact dis|fail) only [go_sem, Int.reduceToNat, Nat.reduceMul, Nat.reduceAdd, Nat.reduceSub, ↓EU_region, ↓EU_draw, g3], by simp (disch := first|exact dis|fail) only [go_sem, Int.reduceToNat, Nat.reduceMul, Nat.reduceAdd, Nat.reduceSub, ↓EU_region, ↓EU_draw, g4]⟩
        | false =>
          simp (disch := first|exact dis|fail) only [go_sem, Int.reduceToNat, Nat.reduceMul, Nat.reduceAdd, Nat.reduceSub, ↓EU_region, ↓EU_draw, g1, g3, g4, hF4]
          ((repeat refine WPo_ob ?_); (first | refine WPo_cond (fun b2 => ?_) (fun b2 => ?_) | refine WPo_gard (fun b2 => ?_) (fun b2 => ?_) | refine WPo_gardT (fun b2 => ?_) (fun b2 => ?_)) <;> (try simp only [Bool.not_eq_true', Bool.not_eq_false'] at b2))
          · simp (disch := first|exact dis|fail) only [go_sem, Int.reduceToNat, Nat.reduceMul, Nat.reduceAdd, Nat.reduceSub, ↓EU_region, ↓EU_draw, b2, g1, g3, g4, hF4]
            rw [ifF_t]
            have hov4p := hov4.ext ((Ext.refl h4).push (.cells (itemE (fndR cur l)) 0))
            repeat refine WPo_ob ?_
            have hlit := OW.lit fltE_len (h4.push (.cells (itemE (fndR cur l)) 0)) [(⟨6, cur⟩ : Flt)]
            rw [List.flatMap_cons, List.flatMap_nil, List.append_nil] at hlit
            unfold fltE at hlit
            refine append_gr (l := A5) (l' := [(⟨6, cur⟩ : Flt)]) fc_ap_122_122 fltE_len (by decide) fltE_scal (hov4p.ext ((Ext.refl (h4.push (.cells (itemE (fndR cur l)) 0))).push _)) hlit.sl (by simp only [List.length_append, List.length_cons, List.length_nil]; omega) (by simp only [List.length_append, List.length_cons, List.length_nil]; omega) fun v' h5 hov5 gr5 => ?_
            simp (disch := first|exact dis|fail) only [go_sem, Int.reduceToNat, Nat.reduceMul, Nat.reduceAdd, Nat.reduceSub, ↓EU_region, ↓EU_draw, b2, g1, g3, g4, hF4]
            exact ⟨_, _, _, rfl, hov5, ((gr4.push _).push _).trans gr5, by simp (disch := first|exact dis|fail) only [go_sem, Int.reduceToNat, Nat.reduceMul, Nat.reduceAdd, Nat.reduceSub, ↓EU_region, ↓EU_draw], by simp (disch := first|exact dis|fail) only [go_sem, Int.reduceToNat, Nat.reduceMul, Nat.reduceAdd, Nat.reduceSub, ↓EU_region, ↓EU_draw, g4]⟩
          · simp (disch := first|exact dis|fail) only [go_sem, Int.reduceToNat, Nat.reduceMul, Nat.reduceAdd, Nat.reduceSub, ↓EU_region, ↓EU_draw, b2]
            rw [ifF_f]
            exact ⟨_, _, _, rfl, by rw [List.append_nil]; exact hov4.ext ((Ext.refl _).push _), gr4.push _, by simp (disch := first|exact dis|fail) only [go_sem, Int.reduceToNat, Nat.reduceMul, Nat.reduceAdd, Nat.reduceSub, ↓EU_region, ↓EU_draw, g3], by simp (disch := first|exact dis|fail) only [go_sem, Int.reduceToNat, Nat.reduceMul, Nat.reduceAdd, Nat.reduceSub, ↓EU_region, ↓EU_draw, g4]⟩
      · clear g1 g3 g4 hfd hF4
        have hl6 := ifF_len (!l.any (byId cur) && !decide (cur = -1)) ⟨6, cur⟩
        generalize hB : A5 ++ ifF (!l.any (byId cur) && !decide (cur = -1)) ⟨6, cur⟩ = A6
        have hA6 : A6.length ≤ 4 * l.length + 2 := by rw [← hB, List.length_append]; omega
        have hfin : formF cur l = A6 ++ ifF (decide ((l.length : Int) > 0) && l.all neg) ⟨7, -1⟩ := by rw [← hB, ← hA]; rfl
        rintro _ ⟨tm5, h6, u6, rfl, hov6, gr6, g3, g4⟩
        rw [hfin]
        obtain ⟨av6, kv6, rfl⟩ := hov6.val
        simp (disch := first|exact dis|fail) only [go_sem, Int.reduceToNat, Nat.reduceMul, Nat.reduceAdd, Nat.reduceSub, ↓EU_region, ↓EU_draw, g3, g4]
        ((repeat refine WPo_ob ?_); (first | refine WPo_cond (fun b3 => ?_) (fun b3 => ?_) | refine WPo_gard (fun b3 => ?_) (fun b3 => ?_) | refine WPo_gardT (fun b3 => ?_) (fun b3 => ?_)) <;> (try simp only [Bool.not_eq_true', Bool.not_eq_false'] at b3))
        · simp (disch := first|exact dis|fail) only [go_sem, Int.reduceToNat, Nat.reduceMul, Nat.reduceAdd, Nat.reduceSub, ↓EU_region, ↓EU_draw, b3, g3]
          rw [ifF_t]
          repeat refine WPo_ob ?_
          have hlit := OW.lit fltE_len h6 [(⟨7, -1⟩ : Flt)]
          rw [List.flatMap_cons, List.flatMap_nil, List.append_nil] at hlit
          unfold fltE at hlit
          refine append_gr (l := A6) (l' := [(⟨7, -1⟩ : Flt)]) fc_ap_122_122 fltE_len (by decide) fltE_scal (hov6.ext ((Ext.refl h6).push _)) hlit.sl (by simp only [List.length_append, List.length_cons, List.length_nil]; omega) (by simp only [List.length_append, List.length_cons, List.length_nil]; omega) fun v' h5 hov5 gr5 => ?_
          have grf := (gr6.push _).trans gr5
          obtain ⟨av7, kv7, rfl⟩ := hov5.val
          simp (disch := first|exact dis|fail) only [go_sem, Int.reduceToNat, Nat.reduceMul, Nat.reduceAdd, Nat.reduceSub, ↓EU_region, ↓EU_draw, b3]
          exact ⟨hov5, by have := Fresh.gr grf (nil_blk _ _); rw [hn0] at this; exact this.mono (by omega), x0.trans (grf.ext0 (Ext.refl _) (Fresh.nil _ _ _))⟩
        · simp (disch := first|exact dis|fail) only [go_sem, Int.reduceToNat, Nat.reduceMul, Nat.reduceAdd, Nat.reduceSub, ↓EU_region, ↓EU_draw, b3, g3]
          rw [ifF_f, List.append_nil]
          exact ⟨hov6, by have := Fresh.gr gr6 (nil_blk _ _); rw [hn0] at this; exact this.mono (by omega), x0.trans (gr6.ext0 (Ext.refl _) (Fresh.nil _ _ _))⟩
end Go.Proofs.YtddgcakiceodgaaGreat.EV
namespace Go.Proofs.YtddgcakiceodgaaGreat.EV
open Go Go.Proofs
set_option linter.unusedVariables false
set_option linter.unusedSimpArgs false
set_option maxRecDepth 100000
set_option pp.deepTerms false
set_option pp.deepTerms.threshold 20
noncomputable def wantF (l : List Item) (x : Item) : List Flt := if l.any (byId x.id) then ifF (!decide ((fndR x.id l).w = x.w)) ⟨10, x.id⟩ ++ ifF (!decide ((fndR x.id l).lag = x.lag)) ⟨11, x.id⟩ else [⟨8, x.id⟩]
noncomputable def gotF (m : List Item) (x : Item) : List Flt := ifF (!m.any (byId x.id)) ⟨9, x.id⟩
noncomputable def diffF (c1 : Int) (l : List Item) (c2 : Int) (m : List Item) : List Flt := (m.flatMap (wantF l) ++ l.flatMap (gotF m)) ++ ifF (!decide (c1 = c2)) ⟨12, c1⟩
noncomputable def faultsF (c1 : Int) (l : List Item) (c2 : Int) (m : List Item) : List Flt := if decide (((formF c1 l).length : Int) > 0) then formF c1 l else diffF c1 l c2 m
theorem wantF_len (l : List Item) (x : Item) : (wantF l x).length ≤ 2 := by
  have h1 := ifF_len (!decide ((fndR x.id l).w = x.w)) ⟨10, x.id⟩
  have h2 := ifF_len (!decide ((fndR x.id l).lag = x.lag)) ⟨11, x.id⟩
  unfold wantF
  split
  · rw [List.length_append]; omega
  · simp
theorem flat_len {α β : Type} (f : α → List β) (k : Nat) (hf : ∀ x, (f x).length ≤ k) : ∀ l : List α, (l.flatMap f).length ≤ k * l.length
  | [] => Nat.zero_le _
  | x :: l => by
    have := flat_len f k hf l
    have h1 := hf x
    rw [List.flatMap_cons, List.length_append, List.length_cons, Nat.mul_add]
    omega
theorem take_flat {α β : Type} (f : α → List β) {l : List α} {i : Nat} {x : α} (h : l[i]? = some x) : (l.take (i + 1)).flatMap f = (l.take i).flatMap f ++ f x := by
  rw [List.take_add_one, h, List.flatMap_append]
  simp
theorem clip_cut {α : Type} {e : α → List Value} {es : Nat} {h : Heap} {P : Program} {t : TypeId} {v : Value} {l : List α} (ht : slT P t = some es) (hs : OW e es h v l) (k k' : IntKind) :
    ∃ u, CUT P h t v none (some (.int k (l.length : Int))) (some (.int k' (l.length : Int))) = some (u, h) ∧ OW e es h u l ∧ ∀ i, blkOf u i → blkOf v i := by
  cases hs with
  | nil =>
    rw [CUT_nil, ht, ob_s]
    exact ⟨.slice none 0 1, rfl, .nil, fun i hi => hi⟩
  | mk b o c l cs hb hc hcap hl hx =>
    have hce : cutEnds l.length (c / 2) none (some (.int k (l.length : Int))) (some (.int k' (l.length : Int))) = some (0, l.length, l.length, true) := by
      unfold cutEnds
      simp only [natOf_nat, ble_nat hcap, cnd_true, ble_nat (Nat.le_refl l.length)]
    rw [CUT_sl, ht, ob_s, hce, ob_s]
    unfold evCutSl
    dsimp only
    rw [Bool.true_or, cnd_true, Nat.zero_mul, Nat.add_zero, Nat.sub_zero]
    have hle : l.length * es ≤ c / 2 * es := Nat.mul_le_mul_right _ hcap
    refine ⟨_, rfl, ?_, fun i hi => by simpa [blkOf] using hi⟩
    rw [show cnd (Nat.beq l.length 0) o o = o by cases Nat.beq l.length 0 <;> rfl]
    exact .mk b o _ l cs hb hc (by omega) (by rw [show (2 * l.length + 1) / 2 = l.length by omega]; omega) hx
theorem clip_ev (l : List Flt) (s : Value) (h : Heap) (hs : OW fltE 2 h s l) (hl : l.length < 9000000) :
    WPo (EF Tryz.prog O0 86 [s] h) fun q => q.2 = h ∧ OW fltE 2 h q.1 l ∧ ∀ i, blkOf q.1 i → blkOf s i := by
  rw [EF_body (O := O0) (by kernel_rfl) Tryz.func86 rfl (rs := [.tmp 2]) rfl (bad := []) (by kernel_rfl) _ _ (m := 9) rfl]
  obtain ⟨u, hu, hou, hbu⟩ := clip_cut fc_sl_122 hs .i64 .i64
  obtain ⟨av, kv, rfl⟩ := hs.val
  simp (disch := first|exact dis|fail) only [go_sem, Int.reduceToNat, Nat.reduceMul, Nat.reduceAdd, Nat.reduceSub, ↓EU_region, ↓EU_draw, hu]
  obtain ⟨au, ku, rfl⟩ := hou.val
  exact ⟨trivial, hou, hbu⟩
set_option maxHeartbeats 1000000 in
theorem faults_ev (c1 c2 : Int) (l m : List Item) (s t : Value) (h : Heap) (hs : SL itemE 3 h s l) (ht : SL itemE 3 h t m) (hl : l.length < 900000) (hm : m.length < 900000) :
    WPo (EF Tryz.prog O0 77 [formV c1 s, formV c2 t] h) fun q => OW fltE 2 q.2 q.1 (faultsF c1 l c2 m) ∧ Fresh h.next q.1 ∧ Ext h q.2 := by
  rw [EF_body (O := O0) (by kernel_rfl) Tryz.func77 rfl (rs := [.tmp 4]) rfl (bad := []) (by kernel_rfl) _ _ (m := 101) rfl]
  obtain ⟨a, c, hv⟩ := hs.val
  subst hv
  obtain ⟨a2, k2, hv⟩ := ht.val
  subst hv
  unfold formV
  have x0 : Ext h ((h.push (.cells [.int .i64 c1, .slice a l.length c] 0)).push (.cells [.int .i64 c2, .slice a2 m.length k2] 0)) := ((Ext.refl h).push _).push _
  have hfm := form_ev c1 l _ _ (hs.ext x0) hl
  unfold formV at hfm
  simp (disch := first|exact dis|fail) only [go_sem, Int.reduceToNat, Nat.reduceMul, Nat.reduceAdd, Nat.reduceSub, ↓EU_region, ↓EU_draw]
  repeat refine WPo_ob ?_
  refine hfm.mono ?_
  rintro ⟨u0, h1⟩ ⟨ho0, hf0, x1⟩
  simp only [next_push] at ho0 hf0 x1
  have hn1 := x1.le
  simp only [next_push] at hn1
  have hA1 : h1.get h.next = .cells [.int .i64 c1, .slice a l.length c] 0 := by simp (disch := first|exact dis|fail) only [go_sem, Int.reduceToNat, Nat.reduceMul, Nat.reduceAdd, Nat.reduceSub, ↓EU_region, ↓EU_draw, x1.old]
  have hB1 : h1.get (h.next + 1) = .cells [.int .i64 c2, .slice a2 m.length k2] 0 := by simp (disch := first|exact dis|fail) only [go_sem, Int.reduceToNat, Nat.reduceMul, Nat.reduceAdd, Nat.reduceSub, ↓EU_region, ↓EU_draw, x1.old]
  have y1 : Ext h h1 := x0.trans x1
  have hfl := formF_len c1 l
  unfold faultsF
  generalize hdf : diffF c1 l c2 m = df
  generalize formF c1 l = F0 at *
  clear hfm x1 x0
  obtain ⟨av, kv, rfl⟩ := ho0.val
  simp (disch := first|exact dis|fail) only [go_sem, Int.reduceToNat, Nat.reduceMul, Nat.reduceAdd, Nat.reduceSub, ↓EU_region, ↓EU_draw]
  ((repeat refine WPo_ob ?_); (first | refine WPo_cond (fun b1 => ?_) (fun b1 => ?_) | refine WPo_gard (fun b1 => ?_) (fun b1 => ?_) | refine WPo_gardT (fun b1 => ?_) (fun b1 => ?_)) <;> (try simp only [Bool.not_eq_true', Bool.not_eq_false'] at b1))
  · simp (disch := first|exact dis|fail) only [go_sem, Int.reduceToNat, Nat.reduceMul, Nat.reduceAdd, Nat.reduceSub, ↓EU_region, ↓EU_draw, b1]
    rw [if_pos trivial]
    exact ⟨ho0, hf0.mono (by omega), y1⟩
  · have b1' := b1
    simp only [decide_eq_false_iff_not] at b1'
    have : F0 = [] := List.length_eq_zero_iff.1 (by omega)
    subst this
    rw [if_neg (by simp)]
    clear b1 b1' hfl
    have hls0 : ∀ h', Ext h h' → SL itemE 3 h' (.slice a l.length c) l := fun h' x => hs.ext x
    simp (disch := first|exact dis|fail) only [go_sem, Int.reduceToNat, Nat.reduceMul, Nat.reduceAdd, Nat.reduceSub, ↓EU_region, ↓EU_draw, hB1]
    repeat refine WPo_ob ?_
    refine (LP_rule (fun n st => ∃ (i : Nat) (tm : Fr) (h2 : Heap) (u : Value) (acc : List Flt), st = ⟨tm, h2, []⟩ ∧ n = m.length - i ∧ i ≤ m.length ∧ Fr.get tm 2 = ptr h.next 0 ∧ Fr.get tm 3 = ptr (h.next + 1) 0 ∧ Fr.get tm 5 = u ∧ Fr.get tm 21 = .slice a2 m.length k2 ∧ Fr.get tm 22 = .int .i64 m.length ∧ Fr.get tm 23 = .int .i64 i ∧ OW fltE 2 h2 u acc ∧ acc = (m.take i).flatMap (wantF l) ∧ Gr (.slice av 0 kv) h1 u h2)
      (fun q => ∃ tm h2 u, q.2 = ⟨tm, h2, []⟩ ∧ q.1 = .exit 0 ∧ Fr.get tm 2 = ptr h.next 0 ∧ Fr.get tm 3 = ptr (h.next + 1) 0 ∧ Fr.get tm 5 = u ∧ OW fltE 2 h2 u (m.flatMap (wantF l)) ∧ Gr (.slice av 0 kv) h1 u h2) ?_ m.length _ _ ?_ ?_).mono ?_
    · rintro n _ ⟨i, tm, h2, u, acc, rfl, rfl, hi, g2, g3, g5, g21, g22, g23, hov, hacc, gr⟩
      have x2 : Ext h h2 := ⟨Nat.le_trans y1.le gr.le, fun j hj => (gr.old j (Nat.lt_of_lt_of_le hj y1.le) (fun q => by have := hf0 j q; omega)).trans (y1.old j hj)⟩
      have hA : h2.get h.next = .cells [.int .i64 c1, .slice a l.length c] 0 := (gr.old _ (by omega) (fun q => by have := hf0 _ q; omega)).trans hA1
      have hn2 := gr.le
      have hal : acc.length ≤ 2 * i := by
        have := flat_len (wantF l) 2 (wantF_len l) (m.take i)
        rw [List.length_take] at this
        rw [hacc]; omega
      obtain ⟨au, ku, rfl⟩ := hov.val
      simp (disch := first|exact dis|fail) only [go_sem, Int.reduceToNat, Nat.reduceMul, Nat.reduceAdd, Nat.reduceSub, ↓EU_region, ↓EU_draw, g2, g3, g5, g21, g22, g23]
      ((repeat refine WPo_ob ?_); (first | refine WPo_cond (fun b1 => ?_) (fun b1 => ?_) | refine WPo_gard (fun b1 => ?_) (fun b1 => ?_) | refine WPo_gardT (fun b1 => ?_) (fun b1 => ?_)) <;> (try simp only [Bool.not_eq_true', Bool.not_eq_false'] at b1))
      · have b1' := b1
        simp only [decide_eq_true_eq] at b1'
        have hi' : i < m.length := by omega
        obtain ⟨x, hx⟩ : ∃ x, m[i]? = some x := ⟨_, List.getElem?_eq_getElem hi'⟩
        obtain ⟨b, o, c', e, hb', hrd, hr⟩ := (ht.ext x2).at hx rfl
        cases e
        have hwi : wrapF .i64 ((i : Int) + 1) = ((i + 1 : Nat) : Int) := by rw [wrap64 (by omega)]; omega
        have htk := take_flat (wantF l) hx
        have hfd := ofind_ev c1 l (.slice a l.length c) x.id (h2.push (.cells (itemE x) 0)) (hls0 _ (x2.push _)) hl
        unfold formV at hfd
        simp (disch := first|exact dis|fail) only [go_sem, Int.reduceToNat, Nat.reduceMul, Nat.reduceAdd, Nat.reduceSub, ↓EU_region, ↓EU_draw, g2, g3, g5, g21, g22, g23, hrd, hA]
        repeat refine WPo_ob ?_
        refine hfd.bind fun h3 x3 => ?_
        have hn3 := x3.le
        rw [next_push] at hn3
        have hX3 : h3.get h2.next = .cells (itemE x) 0 := (x3.old _ (by rw [next_push]; omega)).trans (get_push_new _ _)
        have y3 : Ext h2 h3 := ((Ext.refl h2).push _).trans x3
        have hov3 := (hov.ext y3).ext ((Ext.refl h3).push (.cells (itemE (fndR x.id l)) 0))
        have gr3 := (gr.ext y3).push (.cells (itemE (fndR x.id l)) 0)
        have hX3p : (h3.push (.cells (itemE (fndR x.id l)) 0)).get h2.next = .cells (itemE x) 0 := by rw [get_push_old _ (by omega)]; exact hX3
        have hY3p : (h3.push (.cells (itemE (fndR x.id l)) 0)).get h3.next = .cells (itemE (fndR x.id l)) 0 := get_push_new _ _
        have hnp : h3.next < (h3.push (.cells (itemE (fndR x.id l)) 0)).next := by rw [next_push]; omega
        generalize hyy : fndR x.id l = y at *
        generalize hhp : h3.push (.cells (itemE y) 0) = hp at *
        cases hq : l.any (byId x.id) with
        | false =>
          have hw : wantF l x = [⟨8, x.id⟩] := by unfold wantF; rw [hq]; rfl
          simp (disch := first|exact dis|fail) only [go_sem, Int.reduceToNat, Nat.reduceMul, Nat.reduceAdd, Nat.reduceSub, ↓EU_region, ↓EU_draw, g2, g3, g5, g21, g22, g23, hhp, hX3p, hY3p]
          repeat refine WPo_ob ?_
          have hlit := OW.lit fltE_len hp [(⟨8, x.id⟩ : Flt)]
          rw [List.flatMap_cons, List.flatMap_nil, List.append_nil] at hlit
          unfold fltE at hlit
          refine append_gr (l := acc) (l' := [(⟨8, x.id⟩ : Flt)]) fc_ap_122_122 fltE_len (by decide) fltE_scal (hov3.ext ((Ext.refl hp).push _)) hlit.sl (by simp only [List.length_append, List.length_cons, List.length_nil]; omega) (by simp only [List.length_append, List.length_cons, List.length_nil]; omega) fun v' h5 hov5 gr5 => ?_
          simp (disch := first|exact dis|fail) only [go_sem, Int.reduceToNat, Nat.reduceMul, Nat.reduceAdd, Nat.reduceSub, ↓EU_region, ↓EU_draw, g2, g3, g5, g21, g22, g23, hwi]
          exact ⟨_, by omega, i + 1, _, _, _, _, rfl, rfl, by omega, by simp (disch := first|exact dis|fail) only [go_sem, Int.reduceToNat, Nat.reduceMul, Nat.reduceAdd, Nat.reduceSub, ↓EU_region, ↓EU_draw, g2], by simp (disch := first|exact dis|fail) only [go_sem, Int.reduceToNat, Nat.reduceMul, Nat.reduceAdd, Nat.reduceSub, ↓EU_region, ↓EU_draw, g3], by simp (disch := first|exact dis|fail) only [go_sem, Int.reduceToNat, Nat.reduceMul, Nat.reduceAdd, Nat.reduceSub, ↓EU_region, ↓EU_draw], by simp (disch := first|exact dis|fail) only [go_sem, Int.reduceToNat, Nat.reduceMul, Nat.reduceAdd, Nat.reduceSub, ↓EU_region, ↓EU_draw, g21], by simp (disch := first|exact dis|fail) only [go_sem, Int.reduceToNat, Nat.reduceMul, Nat.reduceAdd, Nat.reduceSub, ↓EU_region, ↓EU_draw, g22], by simp (disch := first|exact dis|fail) only [go_sem, Int.reduceToNat, Nat.reduceMul, Nat.reduceAdd, Nat.reduceSub, ↓EU_region, ↓EU_draw], hov5, by rw [htk, hw, hacc], (gr3.push _).trans gr5⟩
        | true =>
          have hw : wantF l x = ifF (!decide (y.w = x.w)) ⟨10, x.id⟩ ++ ifF (!decide (y.lag = x.lag)) ⟨11, x.id⟩ := by unfold wantF; rw [hq, if_pos rfl, hyy]
          simp (disch := first|exact dis|fail) only [go_sem, Int.reduceToNat, Nat.reduceMul, Nat.reduceAdd, Nat.reduceSub, ↓EU_region, ↓EU_draw, g2, g3, g5, g21, g22, g23, hhp, hX3p, hY3p]
          refine WPo_ob ?_
          refine WPo.mono (Q := fun q => ∃ tm' h5 u5, q = (.normal, ⟨tm', h5, []⟩) ∧ OW fltE 2 h5 u5 (acc ++ ifF (!decide (y.w = x.w)) ⟨10, x.id⟩) ∧ Gr (.slice av 0 kv) h1 u5 h5 ∧ h5.get h2.next = .cells (itemE x) 0 ∧ h5.get h3.next = .cells (itemE y) 0 ∧ Fr.get tm' 2 = ptr h.next 0 ∧ Fr.get tm' 3 = ptr (h.next + 1) 0 ∧ Fr.get tm' 5 = u5 ∧ Fr.get tm' 7 = ptr h2.next 0 ∧ Fr.get tm' 8 = ptr h3.next 0 ∧ Fr.get tm' 21 = .slice (some ⟨b, o, none⟩) m.length k2 ∧ Fr.get tm' 22 = .int .i64 m.length ∧ Fr.get tm' 23 = .int .i64 i) ?_ ?_
          · cases hd : decide (y.w = x.w) with
            | true =>
              simp (disch := first|exact dis|fail) only [go_sem, Int.reduceToNat, Nat.reduceMul, Nat.reduceAdd, Nat.reduceSub, ↓EU_region, ↓EU_draw]
              rw [ifF_f, List.append_nil]
              exact ⟨_, _, _, rfl, hov3, gr3, hX3p, hY3p, by simp (disch := first|exact dis|fail) only [go_sem, Int.reduceToNat, Nat.reduceMul, Nat.reduceAdd, Nat.reduceSub, ↓EU_region, ↓EU_draw, g2], by simp (disch := first|exact dis|fail) only [go_sem, Int.reduceToNat, Nat.reduceMul, Nat.reduceAdd, Nat.reduceSub, ↓EU_region, ↓EU_draw, g3], by simp (disch := first|exact dis|fail) only [go_sem, Int.reduceToNat, Nat.reduceMul, Nat.reduceAdd, Nat.reduceSub, ↓EU_region, ↓EU_draw, g5], by simp (disch := first|exact dis|fail) only [go_sem, Int.reduceToNat, Nat.reduceMul, Nat.reduceAdd, Nat.reduceSub, ↓EU_region, ↓EU_draw], by simp (disch := first|exact dis|fail) only [go_sem, Int.reduceToNat, Nat.reduceMul, Nat.reduceAdd, Nat.reduceSub, ↓EU_region, ↓EU_draw], by simp (disch := first|exact dis|fail) only [go_sem, Int.reduceToNat, Nat.reduceMul, Nat.reduceAdd, Nat.reduceSub, ↓EU_region, ↓EU_draw, g21], by simp (disch := first|exact dis|fail) only [go_sem, Int.reduceToNat, Nat.reduceMul, Nat.reduceAdd, Nat.reduceSub, ↓EU_region, ↓EU_draw, g22], by simp (disch := first|exact dis|fail) only [go_sem, Int.reduceToNat, Nat.reduceMul, Nat.reduceAdd, Nat.reduceSub, ↓EU_region, ↓EU_draw, g23]⟩
            | false =>
              simp (disch := first|exact dis|fail) only [go_sem, Int.reduceToNat, Nat.reduceMul, Nat.reduceAdd, Nat.reduceSub, ↓EU_region, ↓EU_draw, g2, g3, g5, g21, g22, g23, hhp, hX3p, hY3p]
              rw [ifF_t]
              repeat refine WPo_ob ?_
              have hlit := OW.lit fltE_len hp [(⟨10, x.id⟩ : Flt)]
              rw [List.flatMap_cons, List.flatMap_nil, List.append_nil] at hlit
              unfold fltE at hlit
              refine append_gr (l := acc) (l' := [(⟨10, x.id⟩ : Flt)]) fc_ap_122_122 fltE_len (by decide) fltE_scal (hov3.ext ((Ext.refl hp).push _)) hlit.sl (by simp only [List.length_append, List.length_cons, List.length_nil]; omega) (by simp only [List.length_append, List.length_cons, List.length_nil]; omega) fun v' h5 hov5 gr5 => ?_
              simp (disch := first|exact dis|fail) only [go_sem, Int.reduceToNat, Nat.reduceMul, Nat.reduceAdd, Nat.reduceSub, ↓EU_region, ↓EU_draw, g2, g3, g5, g21, g22, g23]
              exact ⟨_, _, _, rfl, hov5, (gr3.push _).trans gr5, by rw [gr5.old _ (by rw [next_push]; omega) (fun q => by have := hov.lt q; omega), get_push_old _ (by omega)]; exact hX3p, by rw [gr5.old _ (by rw [next_push]; omega) (fun q => by have := hov.lt q; omega), get_push_old _ (by omega)]; exact hY3p, by simp (disch := first|exact dis|fail) only [go_sem, Int.reduceToNat, Nat.reduceMul, Nat.reduceAdd, Nat.reduceSub, ↓EU_region, ↓EU_draw, g2], by simp (disch := first|exact dis|fail) only [go_sem, Int.reduceToNat, Nat.reduceMul, Nat.reduceAdd, Nat.reduceSub, ↓EU_region, ↓EU_draw, g3], by simp (disch := first|exact dis|fail) only [go_sem, Int.reduceToNat, Nat.reduceMul, Nat.reduceAdd, Nat.reduceSub, ↓EU_region, ↓EU_draw], by simp (disch := first|exact dis|fail) only [go_sem, Int.reduceToNat, Nat.reduceMul, Nat.reduceAdd, Nat.reduceSub, ↓EU_region, ↓EU_draw], by simp (disch := first|exact dis|fail) only [go_sem, Int.reduceToNat, Nat.reduceMul, Nat.reduceAdd, Nat.reduceSub, ↓EU_region, ↓EU_draw], by simp (disch := first|exact dis|fail) only [go_sem, Int.reduceToNat, Nat.reduceMul, Nat.reduceAdd, Nat.reduceSub, ↓EU_region, ↓EU_draw, g21], by simp (disch := first|exact dis|fail) only [go_sem, Int.reduceToNat, Nat.reduceMul, Nat.reduceAdd, Nat.reduceSub, ↓EU_region, ↓EU_draw, g22], by simp (disch := first|exact dis|fail) only [go_sem, Int.reduceToNat, Nat.reduceMul, Nat.reduceAdd, Nat.reduceSub, ↓EU_region, ↓EU_draw, g23]⟩
          · have hl5 := ifF_len (!decide (y.w = x.w)) ⟨10, x.id⟩
            have hfin : acc ++ wantF l x = (acc ++ ifF (!decide (y.w = x.w)) ⟨10, x.id⟩) ++ ifF (!decide (y.lag = x.lag)) ⟨11, x.id⟩ := by rw [hw, List.append_assoc]
            generalize hA5 : acc ++ ifF (!decide (y.w = x.w)) ⟨10, x.id⟩ = A5 at *
            have hAl : A5.length ≤ 2 * i + 1 := by rw [← hA5, List.length_append]; omega
            clear g2 g3 g5 g21 g22 g23 hX3p hY3p hov3 gr3
            rintro _ ⟨tm5, h6, u5, rfl, hov6, gr6, hX6, hY6, g2, g3, g5, g7, g8, g21, g22, g23⟩
            obtain ⟨av6, kv6, rfl⟩ := hov6.val
            cases hd : decide (y.lag = x.lag) with
            | true =>
              simp (disch := first|exact dis|fail) only [go_sem, Int.reduceToNat, Nat.reduceMul, Nat.reduceAdd, Nat.reduceSub, ↓EU_region, ↓EU_draw, g2, g3, g5, g7, g8, g21, g22, g23, hX6, hY6, hd, hwi]
              rw [hd, Bool.not_true, ifF_f, List.append_nil] at hfin
              exact ⟨_, by omega, i + 1, _, _, _, _, rfl, rfl, by omega, by simp (disch := first|exact dis|fail) only [go_sem, Int.reduceToNat, Nat.reduceMul, Nat.reduceAdd, Nat.reduceSub, ↓EU_region, ↓EU_draw, g2], by simp (disch := first|exact dis|fail) only [go_sem, Int.reduceToNat, Nat.reduceMul, Nat.reduceAdd, Nat.reduceSub, ↓EU_region, ↓EU_draw, g3], by simp (disch := first|exact dis|fail) only [go_sem, Int.reduceToNat, Nat.reduceMul, Nat.reduceAdd, Nat.reduceSub, ↓EU_region, ↓EU_draw, g5], by simp (disch := first|exact dis|fail) only [go_sem, Int.reduceToNat, Nat.reduceMul, Nat.reduceAdd, Nat.reduceSub, ↓EU_region, ↓EU_draw, g21], by simp (disch := first|exact dis|fail) only [go_sem, Int.reduceToNat, Nat.reduceMul, Nat.reduceAdd, Nat.reduceSub, ↓EU_region, ↓EU_draw, g22], by simp (disch := first|exact dis|fail) only [go_sem, Int.reduceToNat, Nat.reduceMul, Nat.reduceAdd, Nat.reduceSub, ↓EU_region, ↓EU_draw], hov6, by rw [htk, ← hacc, hfin], gr6⟩
            | false =>
              simp (disch := first|exact dis|fail) only [go_sem, Int.reduceToNat, Nat.reduceMul, Nat.reduceAdd, Nat.reduceSub, ↓EU_region, ↓EU_draw, g2, g3, g5, g7, g8, g21, g22, g23, hX6, hY6, hd, hwi]
              rw [hd, Bool.not_false, ifF_t] at hfin
              repeat refine WPo_ob ?_
              have hlit := OW.lit fltE_len h6 [(⟨11, x.id⟩ : Flt)]
              rw [List.flatMap_cons, List.flatMap_nil, List.append_nil] at hlit
              unfold fltE at hlit
              refine append_gr (l := A5) (l' := [(⟨11, x.id⟩ : Flt)]) fc_ap_122_122 fltE_len (by decide) fltE_scal (hov6.ext ((Ext.refl h6).push _)) hlit.sl (by simp only [List.length_append, List.length_cons, List.length_nil]; omega) (by simp only [List.length_append, List.length_cons, List.length_nil]; omega) fun v' h5 hov5 gr5 => ?_
              simp (disch := first|exact dis|fail) only [go_sem, Int.reduceToNat, Nat.reduceMul, Nat.reduceAdd, Nat.reduceSub, ↓EU_region, ↓EU_draw, g2, g3, g5, g7, g8, g21, g22, g23, hX6, hY6, hd, hwi]
              exact ⟨_, by omega, i + 1, _, _, _, _, rfl, rfl, by omega, by simp (disch := first|exact dis|fail) only [go_sem, Int.reduceToNat, Nat.reduceMul, Nat.reduceAdd, Nat.reduceSub, ↓EU_region, ↓EU_draw, g2], by simp (disch := first|exact dis|fail) only [go_sem, Int.reduceToNat, Nat.reduceMul, Nat.reduceAdd, Nat.reduceSub, ↓EU_region, ↓EU_draw, g3], by simp (disch := first|exact dis|fail) only [go_sem, Int.reduceToNat, Nat.reduceMul, Nat.reduceAdd, Nat.reduceSub, ↓EU_region, ↓EU_draw], by simp (disch := first|exact dis|fail) only [go_sem, Int.reduceToNat, Nat.reduceMul, Nat.reduceAdd, Nat.reduceSub, ↓EU_region, ↓EU_draw, g21], by simp (disch := first|exact dis|fail) only [go_sem, Int.reduceToNat, Nat.reduceMul, Nat.reduceAdd, Nat.reduceSub, ↓EU_region, ↓EU_draw, g22], by simp (disch := first|exact dis|fail) only [go_sem, Int.reduceToNat, Nat.reduceMul, Nat.reduceAdd, Nat.reduceSub, ↓EU_region, ↓EU_draw], hov5, by rw [htk, ← hacc, hfin], (gr6.push _).trans gr5⟩
      · simp only [decide_eq_false_iff_not] at b1
        have : i = m.length := by omega
        subst this
        rw [List.take_length] at hacc
        subst hacc
        simp (disch := first|exact dis|fail) only [go_sem, Int.reduceToNat, Nat.reduceMul, Nat.reduceAdd, Nat.reduceSub, ↓EU_region, ↓EU_draw]
        exact ⟨_, _, _, rfl, trivial, by simp (disch := first|exact dis|fail) only [go_sem, Int.reduceToNat, Nat.reduceMul, Nat.reduceAdd, Nat.reduceSub, ↓EU_region, ↓EU_draw, g2], by simp (disch := first|exact dis|fail) only [go_sem, Int.reduceToNat, Nat.reduceMul, Nat.reduceAdd, Nat.reduceSub, ↓EU_region, ↓EU_draw, g3], by simp (disch := first|exact dis|fail) only [go_sem, Int.reduceToNat, Nat.reduceMul, Nat.reduceAdd, Nat.reduceSub, ↓EU_region, ↓EU_draw, g5], hov, gr⟩
    · exact ⟨0, _, _, _, [], rfl, rfl, by omega, by simp (disch := first|exact dis|fail) only [go_sem, Int.reduceToNat, Nat.reduceMul, Nat.reduceAdd, Nat.reduceSub, ↓EU_region, ↓EU_draw], by simp (disch := first|exact dis|fail) only [go_sem, Int.reduceToNat, Nat.reduceMul, Nat.reduceAdd, Nat.reduceSub, ↓EU_region, ↓EU_draw], by simp (disch := first|exact dis|fail) only [go_sem, Int.reduceToNat, Nat.reduceMul, Nat.reduceAdd, Nat.reduceSub, ↓EU_region, ↓EU_draw], by simp (disch := first|exact dis|fail) only [go_sem, Int.reduceToNat, Nat.reduceMul, Nat.reduceAdd, Nat.reduceSub, ↓EU_region, ↓EU_draw], by simp (disch := first|exact dis|fail) only [go_sem, Int.reduceToNat, Nat.reduceMul, Nat.reduceAdd, Nat.reduceSub, ↓EU_region, ↓EU_draw], by simp (disch := first|exact dis|fail) only [go_sem, Int.reduceToNat, Nat.reduceMul, Nat.reduceAdd, Nat.reduceSub, ↓EU_region, ↓EU_draw]; rfl, ho0, rfl, Gr.refl _ _⟩
    · omega
    · rintro ⟨q, _⟩ ⟨tm, h2, u, rfl, rfl, g2, g3, g5, hov, gr⟩
      have x2 : Ext h h2 := ⟨Nat.le_trans y1.le gr.le, fun j hj => (gr.old j (Nat.lt_of_lt_of_le hj y1.le) (fun q => by have := hf0 j q; omega)).trans (y1.old j hj)⟩
      have hA : h2.get h.next = .cells [.int .i64 c1, .slice a l.length c] 0 := (gr.old _ (by omega) (fun q => by have := hf0 _ q; omega)).trans hA1
      have hgl := flat_len (wantF l) 2 (wantF_len l) m
      generalize hW : m.flatMap (wantF l) = W at *
      obtain ⟨au, ku, rfl⟩ := hov.val
      simp (disch := first|exact dis|fail) only [go_sem, Int.reduceToNat, Nat.reduceMul, Nat.reduceAdd, Nat.reduceSub, ↓EU_region, ↓EU_draw, g2, g3, g5, hA]
      repeat refine WPo_ob ?_
      refine (LP_rule (fun n st => ∃ (i : Nat) (tm : Fr) (h2 : Heap) (u : Value) (acc : List Flt), st = ⟨tm, h2, []⟩ ∧ n = l.length - i ∧ i ≤ l.length ∧ Fr.get tm 2 = ptr h.next 0 ∧ Fr.get tm 3 = ptr (h.next + 1) 0 ∧ Fr.get tm 5 = u ∧ Fr.get tm 66 = .slice a l.length c ∧ Fr.get tm 67 = .int .i64 l.length ∧ Fr.get tm 68 = .int .i64 i ∧ OW fltE 2 h2 u acc ∧ acc = W ++ (l.take i).flatMap (gotF m) ∧ Gr (.slice av 0 kv) h1 u h2)
        (fun q => ∃ tm h2 u, q.2 = ⟨tm, h2, []⟩ ∧ q.1 = .exit 2 ∧ Fr.get tm 2 = ptr h.next 0 ∧ Fr.get tm 3 = ptr (h.next + 1) 0 ∧ Fr.get tm 5 = u ∧ OW fltE 2 h2 u (W ++ l.flatMap (gotF m)) ∧ Gr (.slice av 0 kv) h1 u h2) ?_ l.length _ _ ?_ ?_).mono ?_
      · clear hov gr g2 g3 g5 x2 hA
        rintro n _ ⟨i, tm, h2, u, acc, rfl, rfl, hi, g2, g3, g5, g66, g67, g68, hov, hacc, gr⟩
        have x2 : Ext h h2 := ⟨Nat.le_trans y1.le gr.le, fun j hj => (gr.old j (Nat.lt_of_lt_of_le hj y1.le) (fun q => by have := hf0 j q; omega)).trans (y1.old j hj)⟩
        have hB : h2.get (h.next + 1) = .cells [.int .i64 c2, .slice a2 m.length k2] 0 := (gr.old _ (by omega) (fun q => by have := hf0 _ q; omega)).trans hB1
        have hn2 := gr.le
        have hal : acc.length ≤ 2 * m.length + i := by
          have := flat_len (gotF m) 1 (fun x => ifF_len _ _) (l.take i)
          rw [List.length_take] at this
          rw [hacc, List.length_append]; omega
        obtain ⟨au, ku, rfl⟩ := hov.val
        simp (disch := first|exact dis|fail) only [go_sem, Int.reduceToNat, Nat.reduceMul, Nat.reduceAdd, Nat.reduceSub, ↓EU_region, ↓EU_draw, g2, g3, g5, g66, g67, g68]
        ((repeat refine WPo_ob ?_); (first | refine WPo_cond (fun b1 => ?_) (fun b1 => ?_) | refine WPo_gard (fun b1 => ?_) (fun b1 => ?_) | refine WPo_gardT (fun b1 => ?_) (fun b1 => ?_)) <;> (try simp only [Bool.not_eq_true', Bool.not_eq_false'] at b1))
        · have b1' := b1
          simp only [decide_eq_true_eq] at b1'
          have hi' : i < l.length := by omega
          obtain ⟨x, hx⟩ : ∃ x, l[i]? = some x := ⟨_, List.getElem?_eq_getElem hi'⟩
          obtain ⟨b, o, c', e, hb', hrd, hr⟩ := (hs.ext x2).at hx rfl
          cases e
          have hwi : wrapF .i64 ((i : Int) + 1) = ((i + 1 : Nat) : Int) := by rw [wrap64 (by omega)]; omega
          have htk := take_flat (gotF m) hx
          have hfd := ofind_ev c2 m (.slice a2 m.length k2) x.id (h2.push (.cells (itemE x) 0)) (ht.ext (x2.push _)) hm
          unfold formV at hfd
          simp (disch := first|exact dis|fail) only [go_sem, Int.reduceToNat, Nat.reduceMul, Nat.reduceAdd, Nat.reduceSub, ↓EU_region, ↓EU_draw, g2, g3, g5, g66, g67, g68, hrd, hB]
          repeat refine WPo_ob ?_
          refine hfd.bind fun h3 x3 => ?_
          have hn3 := x3.le
          rw [next_push] at hn3
          have hX3 : h3.get h2.next = .cells (itemE x) 0 := (x3.old _ (by rw [next_push]; omega)).trans (get_push_new _ _)
          have y3 : Ext h2 h3 := ((Ext.refl h2).push _).trans x3
          have hov3 := (hov.ext y3).ext ((Ext.refl h3).push (.cells (itemE (fndR x.id m)) 0))
          have gr3 := (gr.ext y3).push (.cells (itemE (fndR x.id m)) 0)
          have hX3p : (h3.push (.cells (itemE (fndR x.id m)) 0)).get h2.next = .cells (itemE x) 0 := by rw [get_push_old _ (by omega)]; exact hX3
          generalize hyy : fndR x.id m = y at *
          generalize hhp : h3.push (.cells (itemE y) 0) = hp at *
          cases hq : m.any (byId x.id) with
          | false =>
            have hw : gotF m x = [⟨9, x.id⟩] := by unfold gotF; rw [hq]; rfl
            simp (disch := first|exact dis|fail) only [go_sem, Int.reduceToNat, Nat.reduceMul, Nat.reduceAdd, Nat.reduceSub, ↓EU_region, ↓EU_draw, g2, g3, g5, g66, g67, g68, hhp, hX3p]
            repeat refine WPo_ob ?_
            have hlit := OW.lit fltE_len hp [(⟨9, x.id⟩ : Flt)]
            rw [List.flatMap_cons, List.flatMap_nil, List.append_nil] at hlit
            unfold fltE at hlit
            refine append_gr (l := acc) (l' := [(⟨9, x.id⟩ : Flt)]) fc_ap_122_122 fltE_len (by decide) fltE_scal (hov3.ext ((Ext.refl hp).push _)) hlit.sl (by simp only [List.length_append, List.length_cons, List.length_nil]; omega) (by simp only [List.length_append, List.length_cons, List.length_nil]; omega) fun v' h5 hov5 gr5 => ?_
            simp (disch := first|exact dis|fail) only [go_sem, Int.reduceToNat, Nat.reduceMul, Nat.reduceAdd, Nat.reduceSub, ↓EU_region, ↓EU_draw, g2, g3, g5, g66, g67, g68, hwi]
            exact ⟨_, by omega, i + 1, _, _, _, _, rfl, rfl, by omega, by simp (disch := first|exact dis|fail) only [go_sem, Int.reduceToNat, Nat.reduceMul, Nat.reduceAdd, Nat.reduceSub, ↓EU_region, ↓EU_draw, g2], by simp (disch := first|exact dis|fail) only [go_sem, Int.reduceToNat, Nat.reduceMul, Nat.reduceAdd, Nat.reduceSub, ↓EU_region, ↓EU_draw, g3], by simp (disch := first|exact dis|fail) only [go_sem, Int.reduceToNat, Nat.reduceMul, Nat.reduceAdd, Nat.reduceSub, ↓EU_region, ↓EU_draw], by simp (disch := first|exact dis|fail) only [go_sem, Int.reduceToNat, Nat.reduceMul, Nat.reduceAdd, Nat.reduceSub, ↓EU_region, ↓EU_draw, g66], by simp (disch := first|exact dis|fail) only [go_sem, Int.reduceToNat, Nat.reduceMul, Nat.reduceAdd, Nat.reduceSub, ↓EU_region, ↓EU_draw, g67], by simp (disch := first|exact dis|fail) only [go_sem, Int.reduceToNat, Nat.reduceMul, Nat.reduceAdd, Nat.reduceSub, ↓EU_region, ↓EU_draw], hov5, by rw [htk, hw, hacc, List.append_assoc], (gr3.push _).trans gr5⟩
          | true =>
            have hw : gotF m x = [] := by unfold gotF; rw [hq]; rfl
            simp (disch := first|exact dis|fail) only [go_sem, Int.reduceToNat, Nat.reduceMul, Nat.reduceAdd, Nat.reduceSub, ↓EU_region, ↓EU_draw, g2, g3, g5, g66, g67, g68, hhp, hX3p, hwi]
            exact ⟨_, by omega, i + 1, _, _, _, _, rfl, rfl, by omega, by simp (disch := first|exact dis|fail) only [go_sem, Int.reduceToNat, Nat.reduceMul, Nat.reduceAdd, Nat.reduceSub, ↓EU_region, ↓EU_draw, g2], by simp (disch := first|exact dis|fail) only [go_sem, Int.reduceToNat, Nat.reduceMul, Nat.reduceAdd, Nat.reduceSub, ↓EU_region, ↓EU_draw, g3], by simp (disch := first|exact dis|fail) only [go_sem, Int.reduceToNat, Nat.reduceMul, Nat.reduceAdd, Nat.reduceSub, ↓EU_region, ↓EU_draw, g5], by simp (disch := first|exact dis|fail) only [go_sem, Int.reduceToNat, Nat.reduceMul, Nat.reduceAdd, Nat.reduceSub, ↓EU_region, ↓EU_draw, g66], by simp (disch := first|exact dis|fail) only [go_sem, Int.reduceToNat, Nat.reduceMul, Nat.reduceAdd, Nat.reduceSub, ↓EU_region, ↓EU_draw, g67], by simp (disch := first|exact dis|fail) only [go_sem, Int.reduceToNat, Nat.reduceMul, Nat.reduceAdd, Nat.reduceSub, ↓EU_region, ↓EU_draw], hov3, by rw [htk, hw, hacc, List.append_nil], gr3⟩
        · simp only [decide_eq_false_iff_not] at b1
          have : i = l.length := by omega
          subst this
          rw [List.take_length] at hacc
          subst hacc
          simp (disch := first|exact dis|fail) only [go_sem, Int.reduceToNat, Nat.reduceMul, Nat.reduceAdd, Nat.reduceSub, ↓EU_region, ↓EU_draw]
          exact ⟨_, _, _, rfl, trivial, by simp (disch := first|exact dis|fail) only [go_sem, Int.reduceToNat, Nat.reduceMul, Nat.reduceAdd, Nat.reduceSub, ↓EU_region, ↓EU_draw, g2], by simp (disch := first|exact dis|fail) only [go_sem, Int.reduceToNat, Nat.reduceMul, Nat.reduceAdd, Nat.reduceSub, ↓EU_region, ↓EU_draw, g3], by simp (disch := first|exact dis|fail) only [go_sem, Int.reduceToNat, Nat.reduceMul, Nat.reduceAdd, Nat.reduceSub, ↓EU_region, ↓EU_draw, g5], hov, gr⟩
      · exact ⟨0, _, _, _, W, rfl, rfl, by omega, by simp (disch := first|exact dis|fail) only [go_sem, Int.reduceToNat, Nat.reduceMul, Nat.reduceAdd, Nat.reduceSub, ↓EU_region, ↓EU_draw, g2], by simp (disch := first|exact dis|fail) only [go_sem, Int.reduceToNat, Nat.reduceMul, Nat.reduceAdd, Nat.reduceSub, ↓EU_region, ↓EU_draw, g3], by simp (disch := first|exact dis|fail) only [go_sem, Int.reduceToNat, Nat.reduceMul, Nat.reduceAdd, Nat.reduceSub, ↓EU_region, ↓EU_draw, g5], by simp (disch := first|exact dis|fail) only [go_sem, Int.reduceToNat, Nat.reduceMul, Nat.reduceAdd, Nat.reduceSub, ↓EU_region, ↓EU_draw], by simp (disch := first|exact dis|fail) only [go_sem, Int.reduceToNat, Nat.reduceMul, Nat.reduceAdd, Nat.reduceSub, ↓EU_region, ↓EU_draw], by simp (disch := first|exact dis|fail) only [go_sem, Int.reduceToNat, Nat.reduceMul, Nat.reduceAdd, Nat.reduceSub, ↓EU_region, ↓EU_draw]; rfl, hov, by simp, gr⟩
      · omega
      · clear hov gr g2 g3 g5 x2 hA
        rintro ⟨q, _⟩ ⟨tm, h2, u, rfl, rfl, g2, g3, g5, hov, gr⟩
        have x2 : Ext h h2 := ⟨Nat.le_trans y1.le gr.le, fun j hj => (gr.old j (Nat.lt_of_lt_of_le hj y1.le) (fun q => by have := hf0 j q; omega)).trans (y1.old j hj)⟩
        have hA : h2.get h.next = .cells [.int .i64 c1, .slice a l.length c] 0 := (gr.old _ (by omega) (fun q => by have := hf0 _ q; omega)).trans hA1
        have hB : h2.get (h.next + 1) = .cells [.int .i64 c2, .slice a2 m.length k2] 0 := (gr.old _ (by omega) (fun q => by have := hf0 _ q; omega)).trans hB1
        have hgl2 := flat_len (gotF m) 1 (fun x => ifF_len _ _) l
        have hdf2 : df = (W ++ l.flatMap (gotF m)) ++ ifF (!decide (c1 = c2)) ⟨12, c1⟩ := by rw [← hdf, ← hW]; rfl
        have hGl : (W ++ l.flatMap (gotF m)).length ≤ 2 * m.length + l.length := by rw [List.length_append]; omega
        generalize hG : W ++ l.flatMap (gotF m) = G at *
        have hfu : Fresh (h.next + 1 + 1) u := gr.fresh hf0 (by omega)
        obtain ⟨au, ku, rfl⟩ := hov.val
        simp (disch := first|exact dis|fail) only [go_sem, Int.reduceToNat, Nat.reduceMul, Nat.reduceAdd, Nat.reduceSub, ↓EU_region, ↓EU_draw, g2, g3, g5, hA, hB]
        cases hd : decide (c1 = c2) with
        | true =>
          rw [hd, Bool.not_true, ifF_f, List.append_nil] at hdf2
          subst hdf2
          simp (disch := first|exact dis|fail) only [go_sem, Int.reduceToNat, Nat.reduceMul, Nat.reduceAdd, Nat.reduceSub, ↓EU_region, ↓EU_draw, hd, g5]
          repeat refine WPo_ob ?_
          refine (clip_ev df _ h2 hov (by omega)).mono ?_
          rintro ⟨w, h3⟩ ⟨rfl, how, hbw⟩
          obtain ⟨aw, kw, rfl⟩ := how.val
          simp (disch := first|exact dis|fail) only [go_sem, Int.reduceToNat, Nat.reduceMul, Nat.reduceAdd, Nat.reduceSub, ↓EU_region, ↓EU_draw]
          exact ⟨how, fun j hj => by have := hfu j (hbw j hj); omega, x2⟩
        | false =>
          rw [hd, Bool.not_false, ifF_t] at hdf2
          simp (disch := first|exact dis|fail) only [go_sem, Int.reduceToNat, Nat.reduceMul, Nat.reduceAdd, Nat.reduceSub, ↓EU_region, ↓EU_draw, hd, g2, g5, hA]
          repeat refine WPo_ob ?_
          have hlit := OW.lit fltE_len h2 [(⟨12, c1⟩ : Flt)]
          rw [List.flatMap_cons, List.flatMap_nil, List.append_nil] at hlit
          unfold fltE at hlit
          refine append_gr (l := G) (l' := [(⟨12, c1⟩ : Flt)]) fc_ap_122_122 fltE_len (by decide) fltE_scal (hov.ext ((Ext.refl h2).push _)) hlit.sl (by simp only [List.length_append, List.length_cons, List.length_nil]; omega) (by simp only [List.length_append, List.length_cons, List.length_nil]; omega) fun v' h5 hov5 gr5 => ?_
          rw [← hdf2] at hov5
          have hdl : df.length ≤ 2 * m.length + l.length + 1 := by rw [hdf2, List.length_append, List.length_singleton]; omega
          have gr6 := (gr.push (.cells [.int .i64 12, .int .i64 c1] 2)).trans gr5
          obtain ⟨a5, k5, rfl⟩ := hov5.val
          simp (disch := first|exact dis|fail) only [go_sem, Int.reduceToNat, Nat.reduceMul, Nat.reduceAdd, Nat.reduceSub, ↓EU_region, ↓EU_draw]
          repeat refine WPo_ob ?_
          refine (clip_ev df _ h5 hov5 (by omega)).mono ?_
          rintro ⟨w, h3⟩ ⟨rfl, how, hbw⟩
          obtain ⟨aw, kw, rfl⟩ := how.val
          simp (disch := first|exact dis|fail) only [go_sem, Int.reduceToNat, Nat.reduceMul, Nat.reduceAdd, Nat.reduceSub, ↓EU_region, ↓EU_draw]
          exact ⟨how, fun j hj => by have := (gr6.fresh hf0 (by omega)) j (hbw j hj); omega, ⟨Nat.le_trans y1.le gr6.le, fun j hj => (gr6.old j (Nat.lt_of_lt_of_le hj y1.le) (fun q => by have := hf0 j q; omega)).trans (y1.old j hj)⟩⟩
end Go.Proofs.YtddgcakiceodgaaGreat.EV
