/- Contract: queues: Drop. No condition. -/
import Derived.Test.YtbbdhpjkibbnkaaOq5
namespace Go.Proofs.Ytbbdhpjkibbnkaa.EV
open Go Go.Proofs
set_option linter.unusedVariables false
set_option linter.unusedSimpArgs false
set_option maxRecDepth 100000
set_option pp.deepTerms false
set_option pp.deepTerms.threshold 20
set_option maxHeartbeats 1000000 in
theorem qdrop_ev {h : Heap} {b : Nat} {lv : Value} {mb : Nat} {most st : Int} {l : List QI} (q : QR h b lv mb most st l) (id : Int) (hl : l.length < 800000) :
    WPo (EF Try.prog O0 29 [ptr b 0, .int .i64 id] h) fun r =>
      (r.1 = .tuple ⟨[.agg ⟨[.int .i64 0, .int .i64 0]⟩, .bool false]⟩ ∧ Ext h r.2 ∧ ∀ (n : Nat) (x : QI), l[n]? = some x → x.id ≠ id) ∨
      (∃ (n : Nat) (x : QI), l[n]? = some x ∧ x.id = id ∧ r.1 = .tuple ⟨[.agg ⟨qE x⟩, .bool true]⟩ ∧ ∃ lv' l' st' c, QR r.2 b lv' mb most st' l' ∧ Mod (QS b lv mb) h r.2 ∧ (∀ i, blkOf lv' i → blkOf lv i) ∧ l.Perm (x :: l') ∧ (HP l → HP l') ∧ stN st c st' ∧ c ≤ 3 * bl (l.length + 1)) := by
  rw [EF_body (O := O0) (by kernel_rfl) Try.func29 rfl (rs := [.cell 4 69, .tmp 5]) rfl (bad := [4]) (by kernel_rfl) _ _ (m := 60) rfl]
  obtain ⟨es, clk, f, hm, mr, at0⟩ := q.mp
  have cb := q.cb
  have x0 : Ext h (h.push (.cells [.int .i64 0, .int .i64 0] 0)) := (Ext.refl h).push _
  have q0 := q.ext x0
  have cb0 := q0.cb
  have bl0 := q.bl
  have ml0 := q.ml
  have hm0 : (h.push (.cells [.int .i64 0, .int .i64 0] 0)).get mb = .map es clk := by rw [get_push_old _ ml0]; exact hm
  have gn0 : (h.push (.cells [.int .i64 0, .int .i64 0] 0)).get h.next = .cells [.int .i64 0, .int .i64 0] 0 := get_push_new _ _
  have hn0 : (h.push (.cells [.int .i64 0, .int .i64 0] 0)).next = h.next + 1 := next_push _ _
  simp (maxSteps := 1000000) (disch := first | decide | omega | (simp only [go_sem]; first | done | omega)) only [go_sem, Int.reduceToNat, Nat.reduceMul, Nat.reduceAdd, Nat.reduceSub, ↓EU_region, ↓EU_draw]
  generalize h.push (.cells [.int .i64 0, .int .i64 0] 0) = h0 at *
  rcases idxA at0 id with ⟨hf, hn⟩ | ⟨n, x, hf, hx, hid⟩
  · have lk := look_none (z := .int .i64 0) hm0 mr hf
    simp (maxSteps := 1000000) (disch := first | decide | omega | (simp only [go_sem]; first | done | omega)) only [go_sem, Int.reduceToNat, Nat.reduceMul, Nat.reduceAdd, Nat.reduceSub, ↓EU_region, ↓EU_draw, cb, cb0, lk, gn0]
    exact .inl ⟨trivial, x0.set _ _ (by omega), hn⟩
  · have lk := look_some (z := .int .i64 0) hm0 mr hf
    have hin := (List.getElem?_eq_some_iff.1 hx).1
    obtain ⟨B, o, c, rfl, hB, _⟩ := q.at hx
    obtain ⟨B', o', c', e, _, r1⟩ := q0.at hx
    cases e
    obtain ⟨m, hmd⟩ : ∃ m, m = l.length - 1 := ⟨_, rfl⟩
    obtain ⟨y, hy⟩ : ∃ y, l[m]? = some y := ⟨_, List.getElem?_eq_getElem (by omega)⟩
    have vl := veqL_flat [.int .i64 x.key, .int .i64 x.id] rfl
    have q1 := q0.ext ((Ext.refl h0).push (.cells [.int .i64 x.key, .int .i64 x.id] 0))
    have x1 : Ext h (h0.push (.cells [.int .i64 x.key, .int .i64 x.id] 0)) := x0.push _
    have g1 : (h0.push (.cells [.int .i64 x.key, .int .i64 x.id] 0)).get h0.next = .cells [.int .i64 x.key, .int .i64 x.id] 0 := get_push_new _ _
    have g1' : (h0.push (.cells [.int .i64 x.key, .int .i64 x.id] 0)).get h.next = .cells [.int .i64 0, .int .i64 0] 0 := by rw [get_push_old _ (by omega)]; exact gn0
    have n1 : (h0.push (.cells [.int .i64 x.key, .int .i64 x.id] 0)).next = h0.next + 1 := next_push _ _
    have d1 : decide ((n : Int) < (l.length : Int)) = true := decide_eq_true (by omega)
    simp (maxSteps := 1000000) (disch := first | decide | omega | (simp only [go_sem]; first | done | omega)) only [go_sem, Int.reduceToNat, Nat.reduceMul, Nat.reduceAdd, Nat.reduceSub, ↓EU_region, ↓EU_draw, cb, cb0, lk]
    rw [EU_bad _ _ rfl, EC_tab (tab := [(false, none), (false, none), (false, none), (false, (some (0, 1))), (false, none), (false, none), (false, (some (0, 1))), (false, none), (false, none), (false, none), (false, (some (0, 2))), (false, (some (0, 2))), (false, none), (true, none), (true, none), (false, none)]) (by kernel_rfl)]
    simp (maxSteps := 1000000) (disch := first | decide | omega | (simp only [go_sem]; first | done | omega)) only [go_sem, Int.reduceToNat, Nat.reduceMul, Nat.reduceAdd, Nat.reduceSub, ↓EU_region, ↓EU_draw, cb, cb0, r1, d1, vl, hmd.symm]
    generalize h0.push (.cells [.int .i64 x.key, .int .i64 x.id] 0) = h1 at *
    repeat refine WPo_ob ?_
    refine (swap_ev q1 hx hy (by omega)).mono ?_
    rintro ⟨v2, h2⟩ ⟨q2, m2, n2⟩
    simp only at q2 m2 n2
    have ns : ∀ {i : Nat}, h.next ≤ i → ¬ QS b (.slice (some ⟨B, o, none⟩) l.length c) mb i := fun hi e => by
      rcases e with e | e | e
      · omega
      · omega
      · have : B = _ := e
        omega
    have g2 : h2.get h0.next = .cells [.int .i64 x.key, .int .i64 x.id] 0 := by rw [m2.old _ (by omega) (ns (by omega))]; exact g1
    have g2' : h2.get h.next = .cells [.int .i64 0, .int .i64 0] 0 := by rw [m2.old _ (by omega) (ns (by omega))]; exact g1'
    have ll := swapL_len l n m x y
    have hSm : (swapL l n m x y)[m]? = some x := by rw [swapL_get hin (by omega), if_pos rfl]
    obtain ⟨es2, clk2, f2, hm2, mr2, at2⟩ := q2.mp
    have cb2 := q2.cb
    have o2 := q2.ow
    have mS : HP l → n < m → HX ((swapL l n m x y).take m) n := fun k hnm => k.drop (by omega) hnm hx hy
    have mC : HP l → n = m → HP ((swapL l n m x y).take m) := fun k hnm => by
      subst hnm
      rw [hx] at hy
      cases hy
      have : swapL l n n x x = l := by
        apply List.ext_getElem?
        intro i
        rw [swapL_get hin hin]
        by_cases q : i = n
        · rw [if_pos q, q, hx]
        · rw [if_neg q, if_neg q]
      rw [this]
      exact k.cut n
    have pS : l.Perm (x :: (swapL l n m x y).take m) := (swapL_perm hx hy).symm.trans (take_perm (by rw [ll]; omega) hSm)
    generalize swapL l n m x y = L at *
    rw [← ll] at o2
    have ht : slT Try.prog 79 = some 2 := fc_sl_79
    have c2 := cut_own (P := Try.prog) (t := 79) ht o2 .i64 (i := m) (by omega)
    have ot := o2.take (i := m) (by omega)
    rw [ll] at c2
    have hbB : b ≠ B := fun e => q.nb e.symm
    have hmB : mb ≠ B := fun e => q.nm e.symm
    have cb3 : (h2.set b (.cells [.int .i64 most, .slice (some ⟨B, o, none⟩) m c, .map (some mb), .int .i64 st] 0)).get b = .cells [.int .i64 most, .slice (some ⟨B, o, none⟩) m c, .map (some mb), .int .i64 st] 0 := get_set_same _ _ _
    have cm3 : (h2.set b (.cells [.int .i64 most, .slice (some ⟨B, o, none⟩) m c, .map (some mb), .int .i64 st] 0)).get mb = _ := (get_set_ne _ q.ne.symm).trans hm2
    have n3 : (h2.set b (.cells [.int .i64 most, .slice (some ⟨B, o, none⟩) m c, .map (some mb), .int .i64 st] 0)).next = h2.next := next_set _ _ _
    have o3 : OW qE 2 (h2.set b (.cells [.int .i64 most, .slice (some ⟨B, o, none⟩) m c, .map (some mb), .int .i64 st] 0)) (.slice (some ⟨B, o, none⟩) m c) (L.take m) := ot.mod (Mod.set (S := fun j => j = b) (Mod.refl _ _) _ _ (fun _ => rfl)) (fun j hj e => hbB (e.symm.trans (Eq.symm hj)))
    have m3 : Mod (QS b (.slice (some ⟨B, o, none⟩) l.length c) mb) h (h2.set b (.cells [.int .i64 most, .slice (some ⟨B, o, none⟩) m c, .map (some mb), .int .i64 st] 0)) := ((x1.mod _).trans m2).set _ _ fun _ => .inl rfl
    have g3 : (h2.set b (.cells [.int .i64 most, .slice (some ⟨B, o, none⟩) m c, .map (some mb), .int .i64 st] 0)).get h0.next = .cells [.int .i64 x.key, .int .i64 x.id] 0 := (get_set_ne _ (by omega)).trans g2
    have g3' : (h2.set b (.cells [.int .i64 most, .slice (some ⟨B, o, none⟩) m c, .map (some mb), .int .i64 st] 0)).get h.next = .cells [.int .i64 0, .int .i64 0] 0 := (get_set_ne _ (by omega)).trans g2'
    simp (maxSteps := 1000000) (disch := first | decide | omega | (simp only [go_sem]; first | done | omega)) only [go_sem, Int.reduceToNat, Nat.reduceMul, Nat.reduceAdd, Nat.reduceSub, ↓EU_region, ↓EU_draw, cb2, c2]
    generalize h2.set b (.cells [.int .i64 most, .slice (some ⟨B, o, none⟩) m c, .map (some mb), .int .i64 st] 0) = h3 at *
    have fx : f2 id = some (.int .i64 (m : Int)) := (at2 _ _).2 ⟨m, x, hSm, hid, rfl⟩
    obtain ⟨es4, de, mr4⟩ := del_ok (P := Try.prog) (t := 78) (by rw [fc_mp_78]; rfl) cm3 mr2 fx
    have q4 : QR (h3.set mb (.map es4 clk2)) b (.slice (some ⟨B, o, none⟩) m c) mb most st (L.take m) :=
      ⟨by rw [next_set]; omega, by rw [next_set]; omega, q.ne, q.nb, q.nm, (get_set_ne _ q.ne).trans cb3, o3.mod (Mod.set (S := fun j => j = mb) (Mod.refl _ _) _ _ (fun _ => rfl)) (fun j hj e => hmB (e.symm.trans (Eq.symm hj))), es4, clk2, _, get_set_same _ _ _, mr4, by
        rw [← hid]; exact at2.cut (by omega) hSm⟩
    have m4 : Mod (QS b (.slice (some ⟨B, o, none⟩) l.length c) mb) h (h3.set mb (.map es4 clk2)) := m3.set _ _ fun _ => .inr (.inl rfl)
    have n4 : (h3.set mb (.map es4 clk2)).next = h3.next := next_set _ _ _
    have g4 : (h3.set mb (.map es4 clk2)).get h0.next = .cells [.int .i64 x.key, .int .i64 x.id] 0 := (get_set_ne _ (by omega)).trans g3
    have g4' : (h3.set mb (.map es4 clk2)).get h.next = .cells [.int .i64 0, .int .i64 0] 0 := (get_set_ne _ (by omega)).trans g3'
    simp (maxSteps := 1000000) (disch := first | decide | omega | (simp only [go_sem]; first | done | omega)) only [go_sem, Int.reduceToNat, Nat.reduceMul, Nat.reduceAdd, Nat.reduceSub, ↓EU_region, ↓EU_draw, cb3, de]
    generalize h3.set mb (.map es4 clk2) = h4 at *
    by_cases hnm : n < m
    · have d3 : decide ((n : Int) < (m : Int)) = true := decide_eq_true (by omega)
      simp (maxSteps := 1000000) (disch := first | decide | omega | (simp only [go_sem]; first | done | omega)) only [go_sem, Int.reduceToNat, Nat.reduceMul, Nat.reduceAdd, Nat.reduceSub, ↓EU_region, ↓EU_draw, d3]
      repeat refine WPo_ob ?_
      have tl : (L.take m).length = m := by rw [List.length_take]; omega
      refine (fix_ev q4 (i := n) (by omega) (by omega)).mono ?_
      rintro ⟨v6, h6⟩ ⟨l', st', k, q6, m6, p6, hp6, s6, b6⟩
      simp only at q6 m6
      have hle6 := m6.le
      have g6 : h6.get h0.next = .cells [.int .i64 x.key, .int .i64 x.id] 0 := by rw [m6.old _ (by omega) (ns (by omega))]; exact g4
      have g6' : h6.get h.next = .cells [.int .i64 0, .int .i64 0] 0 := by rw [m6.old _ (by omega) (ns (by omega))]; exact g4'
      simp (maxSteps := 1000000) (disch := first | decide | omega | (simp only [go_sem]; first | done | omega)) only [go_sem, Int.reduceToNat, Nat.reduceMul, Nat.reduceAdd, Nat.reduceSub, ↓EU_region, ↓EU_draw, g6, g6']
      refine .inr ⟨n, x, hx, hid, rfl, _, l', st', k, q6.modO (S := fun j => j = h.next) (Mod.set (Mod.refl _ _) _ _ (fun _ => rfl)) (fun i hi e => ns (i := i) (by omega) hi), (m4.trans m6).set _ _ (fun e => absurd e (by omega)), fun i hi => hi, pS.trans (p6.symm.cons x), fun kk => hp6 (mS kk hnm), s6, ?_⟩
      rw [tl] at b6
      have hh := bl_mono (show n + 1 ≤ l.length + 1 by omega)
      have hh2 := bl_mono (show m ≤ l.length + 1 by omega)
      omega
    · have d3 : decide ((n : Int) < (m : Int)) = false := decide_eq_false (by omega)
      have hnm' : n = m := by omega
      simp (maxSteps := 1000000) (disch := first | decide | omega | (simp only [go_sem]; first | done | omega)) only [go_sem, Int.reduceToNat, Nat.reduceMul, Nat.reduceAdd, Nat.reduceSub, ↓EU_region, ↓EU_draw, d3, g4, g4']
      exact .inr ⟨n, x, hx, hid, rfl, _, L.take m, st, 0, q4.modO (S := fun j => j = h.next) (Mod.set (Mod.refl _ _) _ _ (fun _ => rfl)) (fun i hi e => ns (i := i) (by omega) hi), m4.set _ _ (fun e => absurd e (by omega)), fun i hi => hi, pS, fun kk => mC kk hnm', stN.z st, by omega⟩
end Go.Proofs.Ytbbdhpjkibbnkaa.EV
