/- Contracts: forms: Find, Put, Drop. No condition. -/
import Derived.Test.YtmkfdoomoeiibaaDoorOBack1
namespace Go.Proofs.YtmkfdoomoeiibaaDoor.EV
open Go Go.Proofs
set_option linter.unusedVariables false
set_option linter.unusedSimpArgs false
set_option maxRecDepth 100000
set_option pp.deepTerms false
set_option pp.deepTerms.threshold 20
theorem ofind_ev (cur : Int) (l : List Item) (s : Value) (id : Int) (h : Heap) (hs : SL itemE 3 h s l) (hl : l.length < 900000) (i : Nat) (x : Item) (hi : idx (byId id) l = (i : Int)) (hx : l[i]? = some x) :
    Pu (EF Tryd.prog O0 14 [formV cur s, .int .i64 id] h) h (.tuple ⟨[.agg ⟨itemE x⟩, .bool true]⟩) := by
  unfold Pu
  rw [EF_body (O := O0) (by kernel_rfl) Tryd.func14 rfl (rs := [.cell 4 30, .tmp 5]) rfl (bad := []) (by kernel_rfl) _ _ (m := 18) rfl]
  obtain ⟨b, o, c, hv, _, _, _⟩ := hs.at hx rfl
  subst hv
  unfold formV
  simp (maxSteps := 1000000) (disch := first | decide | omega | (simp only [go_sem]; first | done | omega)) only [go_sem, Int.reduceToNat, Nat.reduceMul, Nat.reduceAdd, Nat.reduceSub, ↓EU_region, ↓EU_draw]
  have x0 : Ext h ((h.push (.cells [.int .i64 cur, .slice (some ⟨b, o, none⟩) l.length c] 0)).push (.cells [.int .i64 0, .int .i64 0, .int .i64 0] 0)) := by repeat (first | exact Ext.refl _ | assumption | refine Ext.push ?_ _ | refine Ext.set ?_ _ _ (by first | omega | (simp only [next_push, next_set]; omega)))
  have g0 : ((h.push (.cells [.int .i64 cur, .slice (some ⟨b, o, none⟩) l.length c] 0)).push (.cells [.int .i64 0, .int .i64 0, .int .i64 0] 0)).get h.next = .cells [.int .i64 cur, .slice (some ⟨b, o, none⟩) l.length c] 0 := by simp (maxSteps := 1000000) (disch := first | decide | omega | (simp only [go_sem]; first | done | omega)) only [go_sem, Int.reduceToNat, Nat.reduceMul, Nat.reduceAdd, Nat.reduceSub, ↓EU_region, ↓EU_draw]
  have g1 : ((h.push (.cells [.int .i64 cur, .slice (some ⟨b, o, none⟩) l.length c] 0)).push (.cells [.int .i64 0, .int .i64 0, .int .i64 0] 0)).get (h.next + 1) = .cells [.int .i64 0, .int .i64 0, .int .i64 0] 0 := by simp (maxSteps := 1000000) (disch := first | decide | omega | (simp only [go_sem]; first | done | omega)) only [go_sem, Int.reduceToNat, Nat.reduceMul, Nat.reduceAdd, Nat.reduceSub, ↓EU_region, ↓EU_draw]
  have n1 : ((h.push (.cells [.int .i64 cur, .slice (some ⟨b, o, none⟩) l.length c] 0)).push (.cells [.int .i64 0, .int .i64 0, .int .i64 0] 0)).next = h.next + 2 := by simp (maxSteps := 1000000) (disch := first | decide | omega | (simp only [go_sem]; first | done | omega)) only [go_sem, Int.reduceToNat, Nat.reduceMul, Nat.reduceAdd, Nat.reduceSub, ↓EU_region, ↓EU_draw]
  generalize (h.push (.cells [.int .i64 cur, .slice (some ⟨b, o, none⟩) l.length c] 0)).push (.cells [.int .i64 0, .int .i64 0, .int .i64 0] 0) = hb at *
  have hF := find_ev cur l _ id hb (hs.ext x0) hl
  unfold formV at hF
  repeat refine WPo_ob ?_
  refine hF.bind fun h1 x1 => ?_
  have hn1 := x1.le
  have o0 : h1.get h.next = .cells [.int .i64 cur, .slice (some ⟨b, o, none⟩) l.length c] 0 := by rw [x1.old _ (by omega)]; exact g0
  have o1 : h1.get (h.next + 1) = .cells [.int .i64 0, .int .i64 0, .int .i64 0] 0 := by rw [x1.old _ (by omega)]; exact g1
  rw [hi]
  have d0 : decide ((i : Int) < 0) = false := decide_eq_false (by omega)
  have hin := (List.getElem?_eq_some_iff.1 hx).1
  have d1 : decide ((i : Int) < (l.length : Int)) = true := decide_eq_true (by omega)
  obtain ⟨b', o', c', hv, _, hr, _⟩ := (hs.ext (x0.trans x1)).at hx rfl
  cases hv
  simp (maxSteps := 1000000) (disch := first | decide | omega | (simp only [go_sem]; first | done | omega)) only [go_sem, Int.reduceToNat, Nat.reduceMul, Nat.reduceAdd, Nat.reduceSub, ↓EU_region, ↓EU_draw, o0, o1, d0, d1, hr, toNat_nat]
  exact ⟨trivial, (x0.trans x1).set _ _ (by omega)⟩
theorem put_ev (cur : Int) (l : List Item) (s : Value) (x : Item) (h : Heap) (hs : SL itemE 3 h s l) (hl : l.length < 900000) (hg : goodF cur l = true) :
    WPo (EF Tryd.prog O0 12 [formV cur s, .agg ⟨itemE x⟩] h) fun q => Ext h q.2 ∧ (q.1 = .tuple ⟨[formV 0 (.slice none 0 1), .int .i64 4]⟩ ∨ q.1 = .tuple ⟨[formV 0 (.slice none 0 1), .int .i64 1]⟩ ∨ (l.any (byId x.id) = false ∧ goodF cur (srtI (l ++ [x])) = true ∧ ∃ v, q.1 = .tuple ⟨[formV cur v, .int .i64 0]⟩ ∧ OW itemE 3 q.2 v (srtI (l ++ [x])))) := by
  rw [EF_body (O := O0) (by kernel_rfl) Tryd.func12 rfl (rs := [.cell 4 24, .tmp 5]) rfl (bad := [5]) (by kernel_rfl) _ _ (m := 36) rfl]
  obtain ⟨a, c, hv⟩ := hs.val
  subst hv
  unfold formV
  simp only [itemE]
  simp (maxSteps := 1000000) (disch := first | decide | omega | (simp only [go_sem]; first | done | omega)) only [go_sem, Int.reduceToNat, Nat.reduceMul, Nat.reduceAdd, Nat.reduceSub, ↓EU_region, ↓EU_draw]
  have x0 : Ext h (((h.push (.cells [.int .i64 cur, .slice a l.length c] 0)).push (.cells [.int .i64 x.id, .int .i64 x.w, .int .i64 x.lag] 0)).push (.cells [.int .i64 0, .slice none 0 1] 0)) := by repeat (first | exact Ext.refl _ | assumption | refine Ext.push ?_ _ | refine Ext.set ?_ _ _ (by first | omega | (simp only [next_push, next_set]; omega)))
  have g0 : (((h.push (.cells [.int .i64 cur, .slice a l.length c] 0)).push (.cells [.int .i64 x.id, .int .i64 x.w, .int .i64 x.lag] 0)).push (.cells [.int .i64 0, .slice none 0 1] 0)).get h.next = .cells [.int .i64 cur, .slice a l.length c] 0 := by simp (maxSteps := 1000000) (disch := first | decide | omega | (simp only [go_sem]; first | done | omega)) only [go_sem, Int.reduceToNat, Nat.reduceMul, Nat.reduceAdd, Nat.reduceSub, ↓EU_region, ↓EU_draw]
  have g1 : (((h.push (.cells [.int .i64 cur, .slice a l.length c] 0)).push (.cells [.int .i64 x.id, .int .i64 x.w, .int .i64 x.lag] 0)).push (.cells [.int .i64 0, .slice none 0 1] 0)).get (h.next + 1) = .cells [.int .i64 x.id, .int .i64 x.w, .int .i64 x.lag] 0 := by simp (maxSteps := 1000000) (disch := first | decide | omega | (simp only [go_sem]; first | done | omega)) only [go_sem, Int.reduceToNat, Nat.reduceMul, Nat.reduceAdd, Nat.reduceSub, ↓EU_region, ↓EU_draw]
  have g2 : (((h.push (.cells [.int .i64 cur, .slice a l.length c] 0)).push (.cells [.int .i64 x.id, .int .i64 x.w, .int .i64 x.lag] 0)).push (.cells [.int .i64 0, .slice none 0 1] 0)).get (h.next + 1 + 1) = .cells [.int .i64 0, .slice none 0 1] 0 := by simp (maxSteps := 1000000) (disch := first | decide | omega | (simp only [go_sem]; first | done | omega)) only [go_sem, Int.reduceToNat, Nat.reduceMul, Nat.reduceAdd, Nat.reduceSub, ↓EU_region, ↓EU_draw]
  have n1 : (((h.push (.cells [.int .i64 cur, .slice a l.length c] 0)).push (.cells [.int .i64 x.id, .int .i64 x.w, .int .i64 x.lag] 0)).push (.cells [.int .i64 0, .slice none 0 1] 0)).next = h.next + 1 + 1 + 1 := by simp (maxSteps := 1000000) (disch := first | decide | omega | (simp only [go_sem]; first | done | omega)) only [go_sem, Int.reduceToNat, Nat.reduceMul, Nat.reduceAdd, Nat.reduceSub, ↓EU_region, ↓EU_draw]
  generalize (((h.push (.cells [.int .i64 cur, .slice a l.length c] 0)).push (.cells [.int .i64 x.id, .int .i64 x.w, .int .i64 x.lag] 0)).push (.cells [.int .i64 0, .slice none 0 1] 0)) = hb at *
  have hG := good_ev cur l _ hb (hs.ext x0) hl
  rw [hg] at hG
  unfold formV at hG
  repeat refine WPo_ob ?_
  refine hG.bind fun h1 x1 => ?_
  have hn1 := x1.le
  have y1 : Ext h h1 := x0.trans x1
  have o0 : h1.get h.next = .cells [.int .i64 cur, .slice a l.length c] 0 := by rw [x1.old _ (by omega)]; exact g0
  have o1 : h1.get (h.next + 1) = .cells [.int .i64 x.id, .int .i64 x.w, .int .i64 x.lag] 0 := by rw [x1.old _ (by omega)]; exact g1
  have o2 : h1.get (h.next + 1 + 1) = .cells [.int .i64 0, .slice none 0 1] 0 := by rw [x1.old _ (by omega)]; exact g2
  have hF := find_ev cur l _ x.id h1 (hs.ext y1) hl
  unfold formV at hF
  simp (maxSteps := 1000000) (disch := first | decide | omega | (simp only [go_sem]; first | done | omega)) only [go_sem, Int.reduceToNat, Nat.reduceMul, Nat.reduceAdd, Nat.reduceSub, ↓EU_region, ↓EU_draw, o0, o1]
  repeat refine WPo_ob ?_
  refine hF.bind fun h2 x2 => ?_
  have hn2 := x2.le
  have y2 : Ext h h2 := y1.trans x2
  have p0 : h2.get h.next = .cells [.int .i64 cur, .slice a l.length c] 0 := by rw [x2.old _ (by omega)]; exact o0
  have p1 : h2.get (h.next + 1) = .cells [.int .i64 x.id, .int .i64 x.w, .int .i64 x.lag] 0 := by rw [x2.old _ (by omega)]; exact o1
  have p2 : h2.get (h.next + 1 + 1) = .cells [.int .i64 0, .slice none 0 1] 0 := by rw [x2.old _ (by omega)]; exact o2
  have hin := idx_neg (p := byId x.id) (l := l)
  cases hany : l.any (byId x.id) with
  | true =>
    rw [hany] at hin
    have d0 : decide (idx (byId x.id) l ≥ 0) = true := by
      have := of_decide_eq_false hin
      exact decide_eq_true (by omega)
    simp (maxSteps := 1000000) (disch := first | decide | omega | (simp only [go_sem]; first | done | omega)) only [go_sem, Int.reduceToNat, Nat.reduceMul, Nat.reduceAdd, Nat.reduceSub, ↓EU_region, ↓EU_draw, p2, d0]
    exact ⟨y2.set _ _ (by omega), .inl trivial⟩
  | false =>
    rw [hany] at hin
    have d0 : decide (idx (byId x.id) l ≥ 0) = false := by
      have := of_decide_eq_true hin
      exact decide_eq_false (by omega)
    simp (maxSteps := 1000000) (disch := first | decide | omega | (simp only [go_sem]; first | done | omega)) only [go_sem, Int.reduceToNat, Nat.reduceMul, Nat.reduceAdd, Nat.reduceSub, ↓EU_region, ↓EU_draw, p2, d0]
    rw [EU_bad _ _ rfl, EC_tab (tab := [(false, none), (false, (some (0, 4))), (false, none), (false, none), (true, none), (false, (some (0, 1))), (true, none), (true, none), (false, none), (true, none), (true, none)]) (by kernel_rfl)]
    simp (maxSteps := 1000000) (disch := first | decide | omega | (simp only [go_sem]; first | done | omega)) only [go_sem, Int.reduceToNat, Nat.reduceMul, Nat.reduceAdd, Nat.reduceSub, ↓EU_region, ↓EU_draw, p0, p1, p2]
    repeat refine WPo_ob ?_
    refine (clone_ev l _ h2 (hs.ext y2) hl).mono ?_
    rintro ⟨v3, h3⟩ ⟨o3, f3, x3⟩
    simp only at o3 f3 x3
    have hn3 := x3.le
    have q0 : h3.get h.next = .cells [.int .i64 cur, .slice a l.length c] 0 := by rw [x3.old _ (by omega)]; exact p0
    have q1 : h3.get (h.next + 1) = .cells [.int .i64 x.id, .int .i64 x.w, .int .i64 x.lag] 0 := by rw [x3.old _ (by omega)]; exact p1
    have q2 : h3.get (h.next + 1 + 1) = .cells [.int .i64 0, .slice none 0 1] 0 := by rw [x3.old _ (by omega)]; exact p2
    obtain ⟨a3, c3, rfl⟩ := o3.val
    simp (maxSteps := 1000000) (disch := first | decide | omega | (simp only [go_sem]; first | done | omega)) only [go_sem, Int.reduceToNat, Nat.reduceMul, Nat.reduceAdd, Nat.reduceSub, ↓EU_region, ↓EU_draw, q0, q1, q2]
    have r0 : (h3.push (.cells [.int .i64 x.id, .int .i64 x.w, .int .i64 x.lag] 3)).get h.next = .cells [.int .i64 cur, .slice a l.length c] 0 := by rw [get_push_old _ (by omega)]; exact q0
    have r1 : (h3.push (.cells [.int .i64 x.id, .int .i64 x.w, .int .i64 x.lag] 3)).get (h.next + 1) = .cells [.int .i64 x.id, .int .i64 x.w, .int .i64 x.lag] 0 := by rw [get_push_old _ (by omega)]; exact q1
    have r2 : (h3.push (.cells [.int .i64 x.id, .int .i64 x.w, .int .i64 x.lag] 3)).get (h.next + 1 + 1) = .cells [.int .i64 0, .slice none 0 1] 0 := by rw [get_push_old _ (by omega)]; exact q2
    have hlit : SL itemE 3 (h3.push (.cells [.int .i64 x.id, .int .i64 x.w, .int .i64 x.lag] 3)) (.slice (some ⟨h3.next, 0, none⟩) 1 3) [x] := (OW.lit itemE_len h3 [x]).sl
    have hl64 : l.length ≤ 64 := by
      unfold goodF at hg
      simp only [Bool.and_eq_true, decide_eq_true_eq] at hg
      exact hg.1
    repeat refine WPo_ob ?_
    refine append_gr (e := itemE) (l := l) (l' := [x]) fc_ap_22_22 itemE_len (by decide) itemE_scal (o3.ext ((Ext.refl h3).push _)) hlit (by simp only [List.length_cons, List.length_nil]; omega) (by simp only [List.length_cons, List.length_nil]; omega) fun v4 h4 o4 gr => ?_
    have hn4 := gr.le
    rw [next_push] at hn4
    have nb : ∀ i, i < h2.next → ¬ blkOf (.slice a3 l.length c3) i := fun i hi q => by have := f3 i q; omega
    have s0 : h4.get h.next = .cells [.int .i64 cur, .slice a l.length c] 0 := by rw [gr.old _ (by rw [next_push]; omega) (nb _ (by omega))]; exact r0
    have s1 : h4.get (h.next + 1) = .cells [.int .i64 x.id, .int .i64 x.w, .int .i64 x.lag] 0 := by rw [gr.old _ (by rw [next_push]; omega) (nb _ (by omega))]; exact r1
    have s2 : h4.get (h.next + 1 + 1) = .cells [.int .i64 0, .slice none 0 1] 0 := by rw [gr.old _ (by rw [next_push]; omega) (nb _ (by omega))]; exact r2
    have f4 : Fresh h2.next v4 := gr.fresh f3 (by rw [next_push]; omega)
    have y4 : Ext h h4 := y2.trans (gr.ext0 (x3.push _) f3)
    obtain ⟨L, hL⟩ : ∃ L, L = l ++ [x] := ⟨_, rfl⟩
    have hLl : L.length = l.length + 1 := by rw [hL, List.length_append]; rfl
    rw [← hL] at o4
    rw [← hL]
    obtain ⟨a4, c4, rfl⟩ := o4.val
    have vl := veqL_flat [.int .i64 x.id, .int .i64 x.w, .int .i64 x.lag] rfl
    have u0 : (h4.push (.cells [.int .i64 cur, .slice a4 L.length c4] 0)).get (h.next + 1 + 1) = .cells [.int .i64 0, .slice none 0 1] 0 := by rw [get_push_old _ (by omega)]; exact s2
    have u1 : (h4.push (.cells [.int .i64 cur, .slice a4 L.length c4] 0)).get h4.next = .cells [.int .i64 cur, .slice a4 L.length c4] 0 := get_push_new _ _
    have n5 : (h4.push (.cells [.int .i64 cur, .slice a4 L.length c4] 0)).next = h4.next + 1 := next_push _ _
    have o5 := o4.ext ((Ext.refl h4).push (.cells [.int .i64 cur, .slice a4 L.length c4] 0))
    have y5 : Ext h (h4.push (.cells [.int .i64 cur, .slice a4 L.length c4] 0)) := y4.push _
    have lt4 : ∀ i, blkOf (.slice a4 L.length c4) i → i < h4.next := fun i hi => o4.lt hi
    simp (maxSteps := 1000000) (disch := first | decide | omega | (simp only [go_sem]; first | done | omega)) only [go_sem, Int.reduceToNat, Nat.reduceMul, Nat.reduceAdd, Nat.reduceSub, ↓EU_region, ↓EU_draw, p0, p1, q0, q1, r0, r1, s0, s1, vl]
    generalize h4.push (.cells [.int .i64 cur, .slice a4 L.length c4] 0) = h5 at *
    repeat refine WPo_ob ?_
    refine (sort_ev L _ h5 o5 (fun e => by rw [e] at hLl; simp at hLl) (by omega)).mono ?_
    rintro ⟨w6, h6⟩ ⟨o6, m6, n6⟩
    simp only at o6 m6 n6
    have t0 : h6.get (h.next + 1 + 1) = .cells [.int .i64 0, .slice none 0 1] 0 := by rw [m6.old _ (by omega) (fun q => by have := f4 _ q; omega)]; exact u0
    have t1 : h6.get h4.next = .cells [.int .i64 cur, .slice a4 L.length c4] 0 := by rw [m6.old _ (by omega) (fun q => by have := lt4 _ q; omega)]; exact u1
    have y6 : Ext h h6 := ⟨by have := y5.le; omega, fun i hi => by rw [m6.old _ (by have := y5.le; omega) (fun q => by have := f4 _ q; omega)]; exact y5.old _ hi⟩
    have hG2 := good_ev cur (srtI L) _ h6 o6.sl (by rw [srtI_len]; omega)
    unfold formV at hG2
    simp (maxSteps := 1000000) (disch := first | decide | omega | (simp only [go_sem]; first | done | omega)) only [go_sem, Int.reduceToNat, Nat.reduceMul, Nat.reduceAdd, Nat.reduceSub, ↓EU_region, ↓EU_draw, t0, t1]
    repeat refine WPo_ob ?_
    refine hG2.bind fun h7 x7 => ?_
    have t0' : h7.get (h.next + 1 + 1) = .cells [.int .i64 0, .slice none 0 1] 0 := by rw [x7.old _ (by omega)]; exact t0
    have t1' : h7.get h4.next = .cells [.int .i64 cur, .slice a4 L.length c4] 0 := by rw [x7.old _ (by omega)]; exact t1
    have y7 : Ext h h7 := y6.trans x7
    cases hgg : goodF cur (srtI L) with
    | false =>
      simp (maxSteps := 1000000) (disch := first | decide | omega | (simp only [go_sem]; first | done | omega)) only [go_sem, Int.reduceToNat, Nat.reduceMul, Nat.reduceAdd, Nat.reduceSub, ↓EU_region, ↓EU_draw, t0', t1']
      exact ⟨y7.set _ _ (by omega), .inr (.inl trivial)⟩
    | true =>
      simp (maxSteps := 1000000) (disch := first | decide | omega | (simp only [go_sem]; first | done | omega)) only [go_sem, Int.reduceToNat, Nat.reduceMul, Nat.reduceAdd, Nat.reduceSub, ↓EU_region, ↓EU_draw, t0', t1']
      exact ⟨y7.set _ _ (by omega), .inr (.inr ⟨trivial, trivial, _, rfl, (o6.ext x7).mod (Mod.set (S := fun j => j = h.next + 1 + 1) (Mod.refl _ _) _ _ (fun _ => rfl)) (fun j hj q => by have := f4 j hj; omega)⟩)⟩
theorem drop_ev (cur : Int) (l : List Item) (s : Value) (id : Int) (h : Heap) (hs : SL itemE 3 h s l) (hl : l.length < 900000) (hg : goodF cur l = true) (i : Nat) (x : Item) (hi : idx (byId id) l = (i : Int)) (hx : l[i]? = some x) :
    WPo (EF Tryd.prog O0 13 [formV cur s, .int .i64 id] h) fun q => Ext h q.2 ∧ ∃ v, q.1 = .tuple ⟨[formV (if cur = id then -1 else cur) v, .int .i64 0]⟩ ∧ OW itemE 3 q.2 v (l.eraseIdx i) := by
  rw [EF_body (O := O0) (by kernel_rfl) Tryd.func13 rfl (rs := [.cell 4 24, .tmp 5]) rfl (bad := [6]) (by kernel_rfl) _ _ (m := 36) rfl]
  obtain ⟨b, o, c, hv, _, _, _⟩ := hs.at hx rfl
  subst hv
  have hin := (List.getElem?_eq_some_iff.1 hx).1
  unfold formV
  simp (maxSteps := 1000000) (disch := first | decide | omega | (simp only [go_sem]; first | done | omega)) only [go_sem, Int.reduceToNat, Nat.reduceMul, Nat.reduceAdd, Nat.reduceSub, ↓EU_region, ↓EU_draw]
  have x0 : Ext h ((h.push (.cells [.int .i64 cur, .slice (some ⟨b, o, none⟩) l.length c] 0)).push (.cells [.int .i64 0, .slice none 0 1] 0)) := by repeat (first | exact Ext.refl _ | assumption | refine Ext.push ?_ _ | refine Ext.set ?_ _ _ (by first | omega | (simp only [next_push, next_set]; omega)))
  have g0 : ((h.push (.cells [.int .i64 cur, .slice (some ⟨b, o, none⟩) l.length c] 0)).push (.cells [.int .i64 0, .slice none 0 1] 0)).get h.next = .cells [.int .i64 cur, .slice (some ⟨b, o, none⟩) l.length c] 0 := by simp (maxSteps := 1000000) (disch := first | decide | omega | (simp only [go_sem]; first | done | omega)) only [go_sem, Int.reduceToNat, Nat.reduceMul, Nat.reduceAdd, Nat.reduceSub, ↓EU_region, ↓EU_draw]
  have g1 : ((h.push (.cells [.int .i64 cur, .slice (some ⟨b, o, none⟩) l.length c] 0)).push (.cells [.int .i64 0, .slice none 0 1] 0)).get (h.next + 1) = .cells [.int .i64 0, .slice none 0 1] 0 := by simp (maxSteps := 1000000) (disch := first | decide | omega | (simp only [go_sem]; first | done | omega)) only [go_sem, Int.reduceToNat, Nat.reduceMul, Nat.reduceAdd, Nat.reduceSub, ↓EU_region, ↓EU_draw]
  have n1 : ((h.push (.cells [.int .i64 cur, .slice (some ⟨b, o, none⟩) l.length c] 0)).push (.cells [.int .i64 0, .slice none 0 1] 0)).next = h.next + 1 + 1 := by simp (maxSteps := 1000000) (disch := first | decide | omega | (simp only [go_sem]; first | done | omega)) only [go_sem, Int.reduceToNat, Nat.reduceMul, Nat.reduceAdd, Nat.reduceSub, ↓EU_region, ↓EU_draw]
  generalize ((h.push (.cells [.int .i64 cur, .slice (some ⟨b, o, none⟩) l.length c] 0)).push (.cells [.int .i64 0, .slice none 0 1] 0)) = hb at *
  have hF := find_ev cur l _ id hb (hs.ext x0) hl
  rw [hi] at hF
  unfold formV at hF
  repeat refine WPo_ob ?_
  refine hF.bind fun h1 x1 => ?_
  have hn1 := x1.le
  have y1 : Ext h h1 := x0.trans x1
  have o0 : h1.get h.next = .cells [.int .i64 cur, .slice (some ⟨b, o, none⟩) l.length c] 0 := by rw [x1.old _ (by omega)]; exact g0
  have o1 : h1.get (h.next + 1) = .cells [.int .i64 0, .slice none 0 1] 0 := by rw [x1.old _ (by omega)]; exact g1
  have hG := good_ev cur l _ h1 (hs.ext y1) hl
  rw [hg] at hG
  unfold formV at hG
  simp (maxSteps := 1000000) (disch := first | decide | omega | (simp only [go_sem]; first | done | omega)) only [go_sem, Int.reduceToNat, Nat.reduceMul, Nat.reduceAdd, Nat.reduceSub, ↓EU_region, ↓EU_draw, o0]
  repeat refine WPo_ob ?_
  refine hG.bind fun h2 x2 => ?_
  have hn2 := x2.le
  have y2 : Ext h h2 := y1.trans x2
  have p0 : h2.get h.next = .cells [.int .i64 cur, .slice (some ⟨b, o, none⟩) l.length c] 0 := by rw [x2.old _ (by omega)]; exact o0
  have p1 : h2.get (h.next + 1) = .cells [.int .i64 0, .slice none 0 1] 0 := by rw [x2.old _ (by omega)]; exact o1
  have d0 : decide ((i : Int) < 0) = false := decide_eq_false (by omega)
  have hw : wrapF .i64 ((i : Int) + 1) = ((i + 1 : Nat) : Int) := by rw [wrap64 (by omega)]; rfl
  simp (maxSteps := 1000000) (disch := first | decide | omega | (simp only [go_sem]; first | done | omega)) only [go_sem, Int.reduceToNat, Nat.reduceMul, Nat.reduceAdd, Nat.reduceSub, ↓EU_region, ↓EU_draw, p1, d0]
  rw [EU_bad _ _ rfl, EC_tab (tab := [(false, none), (false, (some (0, 3))), (false, none), (false, none), (true, none), (false, none), (false, none), (false, none), (true, none), (false, none), (true, none), (true, none)]) (by kernel_rfl)]
  simp (maxSteps := 1000000) (disch := first | decide | omega | (simp only [go_sem]; first | done | omega)) only [go_sem, Int.reduceToNat, Nat.reduceMul, Nat.reduceAdd, Nat.reduceSub, ↓EU_region, ↓EU_draw, p0, p1, hw]
  repeat refine WPo_ob ?_
  refine (clone_ev l _ h2 (hs.ext y2) hl).mono ?_
  rintro ⟨v3, h3⟩ ⟨o3, f3, x3⟩
  simp only at o3 f3 x3
  have hn3 := x3.le
  have q0 : h3.get h.next = .cells [.int .i64 cur, .slice (some ⟨b, o, none⟩) l.length c] 0 := by rw [x3.old _ (by omega)]; exact p0
  have q1 : h3.get (h.next + 1) = .cells [.int .i64 0, .slice none 0 1] 0 := by rw [x3.old _ (by omega)]; exact p1
  simp (maxSteps := 1000000) (disch := first | decide | omega | (simp only [go_sem]; first | done | omega)) only [go_sem, Int.reduceToNat, Nat.reduceMul, Nat.reduceAdd, Nat.reduceSub, ↓EU_region, ↓EU_draw, q0, q1, hw]
  repeat refine WPo_ob ?_
  refine (delete_ev l v3 h3 o3 i hin hl).mono ?_
  rintro ⟨v4, h4⟩ ⟨o4, b4, m4, n4⟩
  simp only at o4 b4 m4 n4
  have f4 : Fresh h2.next v4 := fun j hj => f3 j (b4 j hj)
  have s0 : h4.get h.next = .cells [.int .i64 cur, .slice (some ⟨b, o, none⟩) l.length c] 0 := by rw [m4.old _ (by omega) (fun q => by have := f3 _ q; omega)]; exact q0
  have s1 : h4.get (h.next + 1) = .cells [.int .i64 0, .slice none 0 1] 0 := by rw [m4.old _ (by omega) (fun q => by have := f3 _ q; omega)]; exact q1
  have y3 : Ext h h3 := y2.trans x3
  have y4 : Ext h h4 := ⟨by have := y3.le; omega, fun i hi => by rw [m4.old _ (by have := y3.le; omega) (fun q => by have := f3 _ q; have := y2.le; omega)]; exact y3.old _ hi⟩
  obtain ⟨a4, c4, rfl⟩ := o4.val
  have lt4 : ∀ j, blkOf (.slice a4 (l.eraseIdx i).length c4) j → j < h4.next := fun j hj => o4.lt hj
  have u1 : (h4.push (.cells [.int .i64 cur, .slice a4 (l.eraseIdx i).length c4] 0)).get (h.next + 1) = .cells [.int .i64 0, .slice none 0 1] 0 := by rw [get_push_old _ (by omega)]; exact s1
  have u2 : (h4.push (.cells [.int .i64 cur, .slice a4 (l.eraseIdx i).length c4] 0)).get h4.next = .cells [.int .i64 cur, .slice a4 (l.eraseIdx i).length c4] 0 := get_push_new _ _
  have n5 : (h4.push (.cells [.int .i64 cur, .slice a4 (l.eraseIdx i).length c4] 0)).next = h4.next + 1 := next_push _ _
  have o5 := o4.ext ((Ext.refl h4).push (.cells [.int .i64 cur, .slice a4 (l.eraseIdx i).length c4] 0))
  have y5 : Ext h (h4.push (.cells [.int .i64 cur, .slice a4 (l.eraseIdx i).length c4] 0)) := y4.push _
  simp (maxSteps := 1000000) (disch := first | decide | omega | (simp only [go_sem]; first | done | omega)) only [go_sem, Int.reduceToNat, Nat.reduceMul, Nat.reduceAdd, Nat.reduceSub, ↓EU_region, ↓EU_draw, p0, q0, s0]
  by_cases hci : cur = id
  · have d1 : decide (cur = id) = true := decide_eq_true hci
    rw [if_pos hci]
    simp (maxSteps := 1000000) (disch := first | decide | omega | (simp only [go_sem]; first | done | omega)) only [go_sem, Int.reduceToNat, Nat.reduceMul, Nat.reduceAdd, Nat.reduceSub, ↓EU_region, ↓EU_draw, d1, u1, u2, s1]
    have f5 : Ext h (h4.push (.cells [.int .i64 (-1), .slice a4 (l.eraseIdx i).length c4] 0)) := y4.push _
    exact ⟨f5.set _ _ (by omega), _, rfl, (o4.ext ((Ext.refl h4).push (.cells [.int .i64 (-1), .slice a4 (l.eraseIdx i).length c4] 0))).mod (Mod.set (S := fun j => j = h.next + 1) (Mod.refl _ _) _ _ (fun _ => rfl)) (fun j hj q => by have := f4 j hj; omega)⟩
  · have d1 : decide (cur = id) = false := decide_eq_false hci
    rw [if_neg hci]
    simp (maxSteps := 1000000) (disch := first | decide | omega | (simp only [go_sem]; first | done | omega)) only [go_sem, Int.reduceToNat, Nat.reduceMul, Nat.reduceAdd, Nat.reduceSub, ↓EU_region, ↓EU_draw, d1, u1, u2]
    exact ⟨y5.set _ _ (by omega), _, rfl, o5.mod (Mod.set (S := fun j => j = h.next + 1) (Mod.refl _ _) _ _ (fun _ => rfl)) (fun j hj q => by have := f4 j hj; omega)⟩
end Go.Proofs.YtmkfdoomoeiibaaDoor.EV
