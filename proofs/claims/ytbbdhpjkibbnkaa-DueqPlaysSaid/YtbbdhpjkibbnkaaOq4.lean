/- Contracts: queues: New, Len, Steps, Min, Key, Put. No condition. -/
import Derived.Test.YtbbdhpjkibbnkaaOq3
namespace Go.Proofs.Ytbbdhpjkibbnkaa.EV
open Go Go.Proofs
set_option linter.unusedVariables false
set_option linter.unusedSimpArgs false
set_option maxRecDepth 100000
set_option pp.deepTerms false
set_option pp.deepTerms.threshold 20
noncomputable def clampM (m : Int) : Int := if m < 1 then 1 else if m > 4096 then 4096 else m
theorem new_ev (m : Int) (h : Heap) : WPo (EF Try.prog O0 22 [.int .i64 m] h) fun r => ∃ b mb, r.1 = ptr b 0 ∧ QR r.2 b (.slice none 0 1) mb (clampM m) 0 [] ∧ Ext h r.2 ∧ h.next ≤ b ∧ h.next ≤ mb := by
  rw [EF_body (O := O0) (by kernel_rfl) Try.func22 rfl (rs := [.tmp 2]) rfl (bad := []) (by kernel_rfl) _ _ (m := 9) rfl]
  have e1 : (if (4096 : Int) < (if (1 : Int) > m then 1 else m) then (4096 : Int) else (if (1 : Int) > m then 1 else m)) = clampM m := by
    unfold clampM
    split <;> split <;> (repeat' split) <;> omega
  simp (maxSteps := 1000000) (disch := first | decide | omega | (simp only [go_sem]; first | done | omega)) only [go_sem, Int.reduceToNat, Nat.reduceMul, Nat.reduceAdd, Nat.reduceSub, ↓EU_region, ↓EU_draw, e1]
  refine ⟨h.next + 1, h.next, rfl, ⟨by rw [next_push, next_push]; omega, by rw [next_push, next_push]; omega, by omega, fun e => e.elim, fun e => e.elim, by simp (maxSteps := 1000000) (disch := first | decide | omega | (simp only [go_sem]; first | done | omega)) only [go_sem, Int.reduceToNat, Nat.reduceMul, Nat.reduceAdd, Nat.reduceSub, ↓EU_region, ↓EU_draw], OW.nil, [], 0, fun _ => none, ?_, MR.nil, fun k v => ⟨fun e => (by cases e), fun ⟨n, x, e, _⟩ => (by simp at e)⟩⟩, ((Ext.refl h).push _).push _, by omega, by omega⟩
  simp (maxSteps := 1000000) (disch := first | decide | omega | (simp only [go_sem]; first | done | omega)) only [go_sem, Int.reduceToNat, Nat.reduceMul, Nat.reduceAdd, Nat.reduceSub, ↓EU_region, ↓EU_draw]
theorem qlen_ev {h : Heap} {b : Nat} {lv : Value} {mb : Nat} {most st : Int} {l : List QI} (q : QR h b lv mb most st l) : EF Try.prog O0 30 [ptr b 0] h = some (.int .i64 (l.length : Int), h) := by
  have : WPo (EF Try.prog O0 30 [ptr b 0] h) fun r => r = (.int .i64 (l.length : Int), h) := by
    rw [EF_body (O := O0) (by kernel_rfl) Try.func30 rfl (rs := [.tmp 2]) rfl (bad := []) (by kernel_rfl) _ _ (m := 8) rfl]
    have cb := q.cb
    obtain ⟨a, c, rfl⟩ := q.ow.val
    simp (maxSteps := 1000000) (disch := first | decide | omega | (simp only [go_sem]; first | done | omega)) only [go_sem, Int.reduceToNat, Nat.reduceMul, Nat.reduceAdd, Nat.reduceSub, ↓EU_region, ↓EU_draw, cb]
  obtain ⟨q, e, rfl⟩ := this
  exact e
theorem idxA {l : List QI} {f : Int → Option Value} (a : ATL f l) (id : Int) : (f id = none ∧ ∀ (n : Nat) (x : QI), l[n]? = some x → x.id ≠ id) ∨ ∃ (n : Nat) (x : QI), f id = some (.int .i64 (n : Int)) ∧ l[n]? = some x ∧ x.id = id := by
  cases hf : f id with
  | none =>
    refine .inl ⟨rfl, fun n x hx e => ?_⟩
    have := (a id (.int .i64 (n : Int))).2 ⟨n, x, hx, e, rfl⟩
    rw [hf] at this; cases this
  | some v =>
    obtain ⟨n, x, h1, h2, rfl⟩ := (a id v).1 hf
    exact .inr ⟨n, x, rfl, h1, h2⟩
theorem qmin_ev {h : Heap} {b : Nat} {lv : Value} {mb : Nat} {most st : Int} {l : List QI} (q : QR h b lv mb most st l) : Pu (EF Try.prog O0 31 [ptr b 0] h) h (match l with | [] => .tuple ⟨[.agg ⟨[.int .i64 0, .int .i64 0]⟩, .bool false]⟩ | x :: _ => .tuple ⟨[.agg ⟨qE x⟩, .bool true]⟩) := by
  unfold Pu
  rw [EF_body (O := O0) (by kernel_rfl) Try.func31 rfl (rs := [.cell 2 69, .tmp 3]) rfl (bad := []) (by kernel_rfl) _ _ (m := 17) rfl]
  have q1 := q.ext ((Ext.refl h).push (.cells [.int .i64 0, .int .i64 0] 0))
  have cb := q.cb
  have bl := q.bl
  cases l with
  | nil =>
    obtain ⟨a, c, rfl⟩ := q.ow.val
    simp (maxSteps := 1000000) (disch := first | decide | omega | (simp only [go_sem]; first | done | omega)) only [go_sem, Int.reduceToNat, Nat.reduceMul, Nat.reduceAdd, Nat.reduceSub, ↓EU_region, ↓EU_draw, dec_t, dec_f, cb]
    exact ⟨trivial, by repeat (first | exact Ext.refl _ | assumption | refine Ext.push ?_ _ | refine Ext.set ?_ _ _ (by first | omega | (simp only [next_push, next_set]; omega)))⟩
  | cons x l =>
    obtain ⟨B, o, c, rfl, hB, r1⟩ := q1.at (i := 0) (x := x) rfl
    have d0 : decide (((l.length + 1 : Nat) : Int) = 0) = false := decide_eq_false (by omega)
    have d1 : decide ((0 : Int) < ((l.length + 1 : Nat) : Int)) = true := decide_eq_true (by omega)
    rw [Nat.zero_mul] at r1
    have cb1 := q1.cb
    have gn : (h.push (.cells [.int .i64 0, .int .i64 0] 0)).get h.next = .cells [.int .i64 0, .int .i64 0] 0 := get_push_new _ _
    have xx : Ext h (h.push (.cells [.int .i64 0, .int .i64 0] 0)) := (Ext.refl h).push _
    simp only [List.length_cons] at cb1 cb r1 ⊢
    unfold qE
    simp (maxSteps := 1000000) (disch := first | decide | omega | (simp only [go_sem]; first | done | omega)) only [go_sem, Int.reduceToNat, Nat.reduceMul, Nat.reduceAdd, Nat.reduceSub, ↓EU_region, ↓EU_draw, cb1]
    generalize h.push (.cells [.int .i64 0, .int .i64 0] 0) = h1 at *
    rw [Nat.add_zero] at r1
    simp (maxSteps := 1000000) (disch := first | decide | omega | (simp only [go_sem]; first | done | omega)) only [go_sem, Int.reduceToNat, Nat.reduceMul, Nat.reduceAdd, Nat.reduceSub, ↓EU_region, ↓EU_draw, cb1, d0, d1, r1, gn]
    exact ⟨trivial, xx.set _ _ (by omega)⟩
theorem qkey_ev {h : Heap} {b : Nat} {lv : Value} {mb : Nat} {most st : Int} {l : List QI} (q : QR h b lv mb most st l) (id : Int) : (∃ (n : Nat) (x : QI), l[n]? = some x ∧ x.id = id ∧ EF Try.prog O0 32 [ptr b 0, .int .i64 id] h = some (.tuple ⟨[.int .i64 x.key, .bool true]⟩, h)) ∨ ((∀ (n : Nat) (x : QI), l[n]? = some x → x.id ≠ id) ∧ EF Try.prog O0 32 [ptr b 0, .int .i64 id] h = some (.tuple ⟨[.int .i64 0, .bool false]⟩, h)) := by
  obtain ⟨es, clk, f, hm, mr, at0⟩ := q.mp
  have cb := q.cb
  rcases idxA at0 id with ⟨hf, hn⟩ | ⟨n, x, hf, hx, hid⟩
  · refine .inr ⟨hn, ?_⟩
    have lk := look_none (z := .int .i64 0) hm mr hf
    have : WPo (EF Try.prog O0 32 [ptr b 0, .int .i64 id] h) fun r => r = (.tuple ⟨[.int .i64 0, .bool false]⟩, h) := by
      rw [EF_body (O := O0) (by kernel_rfl) Try.func32 rfl (rs := [.tmp 4, .tmp 5]) rfl (bad := []) (by kernel_rfl) _ _ (m := 27) rfl]
      simp (maxSteps := 1000000) (disch := first | decide | omega | (simp only [go_sem]; first | done | omega)) only [go_sem, Int.reduceToNat, Nat.reduceMul, Nat.reduceAdd, Nat.reduceSub, ↓EU_region, ↓EU_draw, cb, lk]
    obtain ⟨q, e, rfl⟩ := this
    exact e
  · refine .inl ⟨n, x, hx, hid, ?_⟩
    have lk := look_some (z := .int .i64 0) hm mr hf
    have hin := (List.getElem?_eq_some_iff.1 hx).1
    have : WPo (EF Try.prog O0 32 [ptr b 0, .int .i64 id] h) fun r => r = (.tuple ⟨[.int .i64 x.key, .bool true]⟩, h) := by
      rw [EF_body (O := O0) (by kernel_rfl) Try.func32 rfl (rs := [.tmp 4, .tmp 5]) rfl (bad := []) (by kernel_rfl) _ _ (m := 27) rfl]
      obtain ⟨B, o, c, hv, _, _, r1⟩ := q.ow.sl.at hx rfl
      subst hv
      have r0 := r1 0 _ rfl
      rw [Nat.add_zero] at r0
      have d1 : decide ((n : Int) < (l.length : Int)) = true := decide_eq_true (by omega)
      simp (maxSteps := 1000000) (disch := first | decide | omega | (simp only [go_sem]; first | done | omega)) only [go_sem, Int.reduceToNat, Nat.reduceMul, Nat.reduceAdd, Nat.reduceSub, ↓EU_region, ↓EU_draw, cb, lk, d1, r0]
    obtain ⟨q, e, rfl⟩ := this
    exact e
theorem HP.app {l : List QI} (h : HP l) (x : QI) : HX (l ++ [x]) l.length :=
  ⟨fun j h0 hj hp a c ha hc => by
    have h1 := (List.getElem?_eq_some_iff.1 ha).1
    rw [List.length_append, List.length_singleton] at h1
    rw [List.getElem?_append_left (by omega)] at ha
    rw [List.getElem?_append_left (by omega)] at hc
    exact h j h0 a c ha hc, fun hi j a c h0 hj ha hc => by
    have h1 := (List.getElem?_eq_some_iff.1 ha).1
    rw [List.length_append, List.length_singleton] at h1
    omega⟩
theorem ATL.app {f : Int → Option Value} {l : List QI} (a : ATL f l) (x : QI) (hn : ∀ (n : Nat) (y : QI), l[n]? = some y → y.id ≠ x.id) : ATL (upd f x.id (some (.int .i64 (l.length : Int)))) (l ++ [x]) := by
  intro k v
  unfold upd
  by_cases q : k = x.id
  · rw [if_pos q]
    constructor
    · intro e
      cases e
      exact ⟨l.length, x, by simp, q.symm, rfl⟩
    · rintro ⟨n, z, h1, h2, rfl⟩
      by_cases r : n < l.length
      · rw [List.getElem?_append_left r] at h1
        exact absurd (h2.trans q) (hn n z h1)
      · have h3 := (List.getElem?_eq_some_iff.1 h1).1
        rw [List.length_append, List.length_singleton] at h3
        rw [show n = l.length by omega]
  · rw [if_neg q, a k v]
    constructor
    · rintro ⟨n, z, h1, h2, h3⟩
      exact ⟨n, z, by rw [List.getElem?_append_left (List.getElem?_eq_some_iff.1 h1).1]; exact h1, h2, h3⟩
    · rintro ⟨n, z, h1, h2, h3⟩
      by_cases r : n < l.length
      · rw [List.getElem?_append_left r] at h1
        exact ⟨n, z, h1, h2, h3⟩
      · have h4 := (List.getElem?_eq_some_iff.1 h1).1
        rw [List.length_append, List.length_singleton] at h4
        have : n = l.length := by omega
        subst this
        simp at h1
        subst h1
        exact absurd h2.symm q
set_option maxHeartbeats 1000000 in
theorem qput_ev {h : Heap} {b : Nat} {lv : Value} {mb : Nat} {most st : Int} {l : List QI} (q : QR h b lv mb most st l) (key id : Int) (hl : l.length < 800000) :
    WPo (EF Try.prog O0 23 [ptr b 0, .int .i64 key, .int .i64 id] h) fun r =>
      (r.1 = .int .i64 4 ∧ r.2 = h ∧ ∃ (n : Nat) (x : QI), l[n]? = some x ∧ x.id = id) ∨ ((∀ (n : Nat) (x : QI), l[n]? = some x → x.id ≠ id) ∧ ((r.1 = .int .i64 3 ∧ r.2 = h ∧ (l.length : Int) = most) ∨
      (r.1 = .int .i64 0 ∧ (l.length : Int) ≠ most ∧ ∃ lv' l' st' n, QR r.2 b lv' mb most st' l' ∧ Mod (QS b lv mb) h r.2 ∧ (∀ i, blkOf lv' i → blkOf lv i ∨ h.next ≤ i) ∧ l'.Perm (⟨key, id⟩ :: l) ∧ (HP l → HP l') ∧ stN st n st' ∧ n ≤ 3 * bl (l.length + 1)))) := by
  rw [EF_body (O := O0) (by kernel_rfl) Try.func23 rfl (rs := [.tmp 6]) rfl (bad := []) (by kernel_rfl) _ _ (m := 60) rfl]
  obtain ⟨es, clk, f, hm, mr, at0⟩ := q.mp
  have cb := q.cb
  obtain ⟨a, c, rfl⟩ := q.ow.val
  rcases idxA at0 id with ⟨hf, hn⟩ | ⟨n, x, hf, hx, hid⟩
  · have lk := look_none (z := .int .i64 0) hm mr hf
    by_cases hmost : (l.length : Int) = most
    · have d0 : decide ((l.length : Int) = most) = true := decide_eq_true hmost
      simp (maxSteps := 1000000) (disch := first | decide | omega | (simp only [go_sem]; first | done | omega)) only [go_sem, Int.reduceToNat, Nat.reduceMul, Nat.reduceAdd, Nat.reduceSub, ↓EU_region, ↓EU_draw, cb, lk, d0]
      exact .inr ⟨hn, .inl ⟨trivial, trivial, hmost⟩⟩
    · have d0 : decide ((l.length : Int) = most) = false := decide_eq_false hmost
      simp (maxSteps := 1000000) (disch := first | decide | omega | (simp only [go_sem]; first | done | omega)) only [go_sem, Int.reduceToNat, Nat.reduceMul, Nat.reduceAdd, Nat.reduceSub, ↓EU_region, ↓EU_draw, cb, lk, d0]
      obtain ⟨X, hX⟩ : ∃ X : QI, X = ⟨key, id⟩ := ⟨_, rfl⟩
      have hlit : SL qE 2 (h.push (.cells [.int .i64 key, .int .i64 id] 2)) (.slice (some ⟨h.next, 0, none⟩) 1 3) [X] := by
        rw [hX]
        exact (OW.lit qE_len h [⟨key, id⟩]).sl
      have bl0 := q.bl
      have ml0 := q.ml
      repeat refine WPo_ob ?_
      refine append_gr (e := qE) (l := l) (l' := [X]) fc_ap_79_79 qE_len (by decide) qE_scal (q.ow.ext ((Ext.refl h).push _)) hlit (by simp only [List.length_cons, List.length_nil]; omega) (by simp only [List.length_cons, List.length_nil]; omega) fun v3 h3 o3 gr => ?_
      have hn3 := gr.le
      rw [next_push] at hn3
      have nb3 : ¬ blkOf v3 b := fun e => by
        rcases gr.src _ e with k | k
        · exact q.nb k
        · rw [next_push] at k; omega
      have nm3 : ¬ blkOf v3 mb := fun e => by
        rcases gr.src _ e with k | k
        · exact q.nm k
        · rw [next_push] at k; omega
      have cb3 : h3.get b = _ := (gr.old b (by rw [next_push]; omega) q.nb).trans ((get_push_old _ bl0).trans cb)
      have cm3 : h3.get mb = _ := (gr.old mb (by rw [next_push]; omega) q.nm).trans ((get_push_old _ ml0).trans hm)
      have hLl : (l ++ [X]).length = l.length + 1 := by rw [List.length_append]; rfl
      obtain ⟨a3, c3, hv3⟩ := o3.val
      rw [hLl] at hv3
      have hw : wrapF .i64 (((l.length + 1 : Nat) : Int) - 1) = (l.length : Int) := by rw [wrap64 (by omega)]; omega
      have cb4 : (h3.set b (.cells [.int .i64 most, v3, .map (some mb), .int .i64 st] 0)).get b = .cells [.int .i64 most, v3, .map (some mb), .int .i64 st] 0 := get_set_same _ _ _
      have cm4 : (h3.set b (.cells [.int .i64 most, v3, .map (some mb), .int .i64 st] 0)).get mb = _ := (get_set_ne _ q.ne.symm).trans cm3
      have n4 : (h3.set b (.cells [.int .i64 most, v3, .map (some mb), .int .i64 st] 0)).next = h3.next := next_set _ _ _
      have o4 : OW qE 2 (h3.set b (.cells [.int .i64 most, v3, .map (some mb), .int .i64 st] 0)) v3 (l ++ [X]) := o3.mod (Mod.set (S := fun j => j = b) (Mod.refl _ _) _ _ (fun _ => rfl)) (fun j hj e => nb3 (e ▸ hj))
      have m4 : Mod (QS b (.slice a l.length c) mb) h (h3.set b (.cells [.int .i64 most, v3, .map (some mb), .int .i64 st] 0)) := (((Ext.refl h).push (.cells [.int .i64 key, .int .i64 id] 2)).mod _ |>.trans (gr.mod.mono fun i _ e => .inr (.inr e))).set _ _ fun _ => .inl rfl
      have hst : (h3.set b (.cells [.int .i64 most, v3, .map (some mb), .int .i64 st] 0)) = h3.set b (.cells [.int .i64 most, v3, .map (some mb), .int .i64 st] 0) := rfl
      subst hv3
      simp (maxSteps := 1000000) (disch := first | decide | omega | (simp only [go_sem]; first | done | omega)) only [go_sem, Int.reduceToNat, Nat.reduceMul, Nat.reduceAdd, Nat.reduceSub, ↓EU_region, ↓EU_draw, cb3]
      generalize h3.set b (.cells [.int .i64 most, .slice a3 (l.length + 1) c3, .map (some mb), .int .i64 st] 0) = h4 at *
      obtain ⟨es5, clk5, mu, mr5⟩ := mupd_ok cm4 mr id (.int .i64 (l.length : Int))
      have cb5 : (h4.set mb (.map es5 clk5)).get b = _ := (get_set_ne _ q.ne).trans cb4
      have q5 : QR (h4.set mb (.map es5 clk5)) b (.slice a3 (l.length + 1) c3) mb most st (l ++ [X]) :=
        ⟨by rw [next_set]; omega, by rw [next_set]; omega, q.ne, nb3, nm3, cb5, o4.mod (Mod.set (S := fun j => j = mb) (Mod.refl _ _) _ _ (fun _ => rfl)) (fun j hj e => nm3 (e ▸ hj)), es5, clk5, _, get_set_same _ _ _, mr5, by
          have := at0.app X (by rw [hX]; exact hn)
          rw [hX] at this ⊢
          exact this⟩
      have m5 : Mod (QS b (.slice a l.length c) mb) h (h4.set mb (.map es5 clk5)) := m4.set _ _ fun _ => .inr (.inl rfl)
      have n5 : (h4.set mb (.map es5 clk5)).next = h4.next := next_set _ _ _
      simp (maxSteps := 1000000) (disch := first | decide | omega | (simp only [go_sem]; first | done | omega)) only [go_sem, Int.reduceToNat, Nat.reduceMul, Nat.reduceAdd, Nat.reduceSub, ↓EU_region, ↓EU_draw, cb4, mu, hw, Nat.add_sub_cancel]
      generalize h4.set mb (.map es5 clk5) = h5 at *
      simp (maxSteps := 1000000) (disch := first | decide | omega | (simp only [go_sem]; first | done | omega)) only [go_sem, Int.reduceToNat, Nat.reduceMul, Nat.reduceAdd, Nat.reduceSub, ↓EU_region, ↓EU_draw, cb5, hw, Nat.add_sub_cancel]
      repeat refine WPo_ob ?_
      refine (fix_ev q5 (i := l.length) (by omega) (by omega)).mono ?_
      rintro ⟨v6, h6⟩ ⟨l', st', n, q6, m6, p6, hp6, s6, b6⟩
      simp only at q6 m6
      simp (maxSteps := 1000000) (disch := first | decide | omega | (simp only [go_sem]; first | done | omega)) only [go_sem, Int.reduceToNat, Nat.reduceMul, Nat.reduceAdd, Nat.reduceSub, ↓EU_region, ↓EU_draw]
      refine .inr ⟨hn, .inr ⟨trivial, hmost, _, l', st', n, q6, m5.drop (m6.mono fun i _ e => ?_), fun i hi => ?_, ?_, fun k => hp6 (k.app X), s6, ?_⟩⟩
      · rcases e with e | e | e
        · exact .inl (.inl e)
        · exact .inl (.inr (.inl e))
        · rcases gr.src _ e with k | k
          · exact .inl (.inr (.inr k))
          · rw [next_push] at k; exact .inr (by omega)
      · rcases gr.src _ hi with k | k
        · exact .inl k
        · rw [next_push] at k; exact .inr (by omega)
      · rw [← hX]
        exact p6.trans List.perm_append_comm
      · rw [hLl] at b6
        omega
  · have lk := look_some (z := .int .i64 0) hm mr hf
    simp (maxSteps := 1000000) (disch := first | decide | omega | (simp only [go_sem]; first | done | omega)) only [go_sem, Int.reduceToNat, Nat.reduceMul, Nat.reduceAdd, Nat.reduceSub, ↓EU_region, ↓EU_draw, cb, lk]
    exact .inl ⟨trivial, trivial, n, x, hx, hid⟩
end Go.Proofs.Ytbbdhpjkibbnkaa.EV
