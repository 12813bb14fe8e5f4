/- Contracts: queues: Set, Drop. No condition. -/
import Derived.Test.YtbbdhpjkibbnkaaOq4
namespace Go.Proofs.Ytbbdhpjkibbnkaa.EV
open Go Go.Proofs
set_option linter.unusedVariables false
set_option linter.unusedSimpArgs false
set_option maxRecDepth 100000
set_option pp.deepTerms false
set_option pp.deepTerms.threshold 20
theorem splice_keep {cs : List Value} {p : Nat} {a b : Value} (h : cs[p + 1]? = some b) : splice cs p [a, b] = cs.set p a := by
  show (cs.set p a).set (p + 1) b = cs.set p a
  apply List.ext_getElem?
  intro i
  rw [List.getElem?_set]
  by_cases q : p + 1 = i
  · subst q
    have hl := (List.getElem?_eq_some_iff.1 h).1
    rw [if_pos rfl, if_pos (by rw [List.length_set]; exact hl), List.getElem?_set_ne (by omega), h]
  · rw [if_neg q]
theorem HP.set {l : List QI} (h : HP l) {n : Nat} (x : QI) : HX (l.set n x) n :=
  ⟨fun j h0 hj hp a c ha hc => by
    rw [List.getElem?_set_ne (fun e => hj e.symm)] at ha
    rw [List.getElem?_set_ne (fun e => hp e.symm)] at hc
    exact h j h0 a c ha hc, fun hi j a c h0 hj ha hc => by
    rw [List.getElem?_set_ne (by omega)] at ha hc
    cases hz : l[n]? with
    | none =>
      have h1 := (List.getElem?_eq_some_iff.1 ha).1
      have h2 := List.getElem?_eq_none_iff.1 hz
      omega
    | some z => exact leQ_trans (h n hi z c hz hc) (h j h0 a z ha (by rw [hj]; exact hz))⟩
theorem ATL.set {f : Int → Option Value} {l : List QI} (a : ATL f l) {n : Nat} {x y : QI} (hx : l[n]? = some x) (hid : y.id = x.id) : ATL f (l.set n y) := by
  have hn := (List.getElem?_eq_some_iff.1 hx).1
  intro k v
  rw [a k v]
  constructor
  · rintro ⟨m, z, h1, h2, h3⟩
    by_cases q : m = n
    · subst q
      rw [hx] at h1
      cases h1
      exact ⟨m, y, by rw [List.getElem?_set_self hn], hid.trans h2, h3⟩
    · exact ⟨m, z, by rw [List.getElem?_set_ne (fun e => q e.symm)]; exact h1, h2, h3⟩
  · rintro ⟨m, z, h1, h2, h3⟩
    by_cases q : m = n
    · subst q
      rw [List.getElem?_set_self hn] at h1
      cases h1
      exact ⟨m, x, hx, hid.symm.trans h2, h3⟩
    · rw [List.getElem?_set_ne (fun e => q e.symm)] at h1
      exact ⟨m, z, h1, h2, h3⟩
theorem qset_ev {h : Heap} {b : Nat} {lv : Value} {mb : Nat} {most st : Int} {l : List QI} (q : QR h b lv mb most st l) (id key : Int) (hl : l.length < 800000) :
    WPo (EF Try.prog O0 28 [ptr b 0, .int .i64 id, .int .i64 key] h) fun r =>
      (r.1 = .bool false ∧ r.2 = h ∧ ∀ (n : Nat) (x : QI), l[n]? = some x → x.id ≠ id) ∨
      (∃ (n : Nat) (x : QI), l[n]? = some x ∧ x.id = id ∧ r.1 = .bool true ∧ ∃ l' st' c, QR r.2 b lv mb most st' l' ∧ Mod (QS b lv mb) h r.2 ∧ l'.Perm (l.set n ⟨key, id⟩) ∧ (HP l → HP l') ∧ stN st c st' ∧ c ≤ 3 * bl (l.length + 1)) := by
  rw [EF_body (O := O0) (by kernel_rfl) Try.func28 rfl (rs := [.tmp 6]) rfl (bad := []) (by kernel_rfl) _ _ (m := 31) rfl]
  obtain ⟨es, clk, f, hm, mr, at0⟩ := q.mp
  have cb := q.cb
  rcases idxA at0 id with ⟨hf, hn⟩ | ⟨n, x, hf, hx, hid⟩
  · have lk := look_none (z := .int .i64 0) hm mr hf
    simp (maxSteps := 1000000) (disch := first | decide | omega | (simp only [go_sem]; first | done | omega)) only [go_sem, Int.reduceToNat, Nat.reduceMul, Nat.reduceAdd, Nat.reduceSub, ↓EU_region, ↓EU_draw, cb, lk]
    exact .inl ⟨trivial, trivial, hn⟩
  · have lk := look_some (z := .int .i64 0) hm mr hf
    have hin := (List.getElem?_eq_some_iff.1 hx).1
    obtain ⟨B, o, c, hv, _, _, t1⟩ := q.ow.sl.at hx rfl
    subst hv
    have t1 := t1 1 _ rfl
    obtain ⟨B', o', c', cs, e, _, hcs, hfit, o1⟩ := q.ow.put qE_len n ⟨key, id⟩ hin
    cases e
    have hbB : b ≠ B := fun e => q.nb e.symm
    have hmB : mb ≠ B := fun e => q.nm e.symm
    have hk : splice cs (o + n * 2) (qE ⟨key, id⟩) = cs.set (o + n * 2) (.int .i64 key) := by
      refine splice_keep ?_
      rw [hcs, rdc1_c] at t1
      rw [t1, hid]
    rw [hk] at o1
    have w1 : wrc h B (o + n * 2) [.int .i64 key] (h.get B) = some (h.set B (.cells (cs.set (o + n * 2) (.int .i64 key)) 2)) := by
      rw [hcs]
      exact wrc_c _ _ _ _ _ _ (by simp only [List.length_cons, List.length_nil]; omega) rfl
    have d1 : decide ((n : Int) < (l.length : Int)) = true := decide_eq_true (by omega)
    have ll : (l.set n ⟨key, id⟩).length = l.length := List.length_set
    have q1 : QR (h.set B (.cells (cs.set (o + n * 2) (.int .i64 key)) 2)) b (.slice (some ⟨B, o, none⟩) l.length c) mb most st (l.set n ⟨key, id⟩) :=
      ⟨by rw [next_set]; exact q.bl, by rw [next_set]; exact q.ml, q.ne, q.nb, q.nm, (get_set_ne _ hbB).trans cb, o1, es, clk, f, (get_set_ne _ hmB).trans hm, mr, at0.set hx hid.symm⟩
    have m1 : Mod (QS b (.slice (some ⟨B, o, none⟩) l.length c) mb) h (h.set B (.cells (cs.set (o + n * 2) (.int .i64 key)) 2)) := (Mod.refl _ _).set _ _ fun _ => .inr (.inr rfl)
    simp (maxSteps := 1000000) (disch := first | decide | omega | (simp only [go_sem]; first | done | omega)) only [go_sem, Int.reduceToNat, Nat.reduceMul, Nat.reduceAdd, Nat.reduceSub, ↓EU_region, ↓EU_draw, cb, lk, d1, w1]
    generalize h.set B (.cells (cs.set (o + n * 2) (.int .i64 key)) 2) = h1 at *
    repeat refine WPo_ob ?_
    refine (fix_ev q1 (i := n) (by omega) (by omega)).mono ?_
    rintro ⟨v6, h6⟩ ⟨l', st', m, q6, m6, p6, hp6, s6, b6⟩
    simp only at q6 m6
    simp (maxSteps := 1000000) (disch := first | decide | omega | (simp only [go_sem]; first | done | omega)) only [go_sem, Int.reduceToNat, Nat.reduceMul, Nat.reduceAdd, Nat.reduceSub, ↓EU_region, ↓EU_draw]
    refine .inr ⟨n, x, hx, hid, trivial, l', st', m, q6, m1.trans m6, p6, fun k => hp6 (k.set _), s6, ?_⟩
    rw [ll] at b6
    have hh := bl_mono (show n + 1 ≤ l.length + 1 by omega)
    have hh2 := bl_mono (show l.length ≤ l.length + 1 by omega)
    omega
theorem HP.drop {l : List QI} (h : HP l) {n m : Nat} {x y : QI} (hm : m + 1 = l.length) (hn : n < m) (hx : l[n]? = some x) (hy : l[m]? = some y) : HX ((swapL l n m x y).take m) n := by
  have hg := swapL_get (x := x) (y := y) (l := l) (i := n) (j := m) (by omega) (by omega)
  have ht : ∀ j, j < m → j ≠ n → ((swapL l n m x y).take m)[j]? = l[j]? := fun j hj hjn => by
    rw [List.getElem?_take_of_lt hj, hg, if_neg (by omega), if_neg hjn]
  have hlt : ∀ {j : Nat} {a : QI}, ((swapL l n m x y).take m)[j]? = some a → j < m := fun ha => by
    have := (List.getElem?_eq_some_iff.1 ha).1
    rw [List.length_take, swapL_len] at this
    omega
  refine ⟨fun j h0 hj hp a c ha hc => ?_, fun hi j a c h0 hj ha hc => ?_⟩
  · have h1 := hlt ha
    rw [ht j h1 hj] at ha
    rw [ht _ (by omega) hp] at hc
    exact h j h0 a c ha hc
  · have h1 := hlt ha
    rw [ht j h1 (by omega)] at ha
    rw [ht _ (by omega) (by omega)] at hc
    exact leQ_trans (h n hi x c hx hc) (h j h0 a x ha (by rw [hj]; exact hx))
theorem HP.cut {l : List QI} (h : HP l) (m : Nat) : HP (l.take m) := fun j h0 a c ha hc => by
  rw [List.getElem?_take] at ha hc
  split at ha
  · split at hc
    · exact h j h0 a c ha hc
    · cases hc
  · cases ha
theorem ATL.cut {f : Int → Option Value} {l : List QI} (a : ATL f l) {m : Nat} {x : QI} (hm : m + 1 = l.length) (hx : l[m]? = some x) : ATL (upd f x.id none) (l.take m) := by
  intro k v
  unfold upd
  by_cases q : k = x.id
  · rw [if_pos q]
    constructor
    · intro e; cases e
    · rintro ⟨n, z, h1, h2, h3⟩
      have h4 := (List.getElem?_eq_some_iff.1 h1).1
      rw [List.length_take] at h4
      rw [List.getElem?_take_of_lt (by omega)] at h1
      have := a.uniq h1 hx (h2.trans q)
      omega
  · rw [if_neg q, a k v]
    constructor
    · rintro ⟨n, z, h1, h2, h3⟩
      have h4 := (List.getElem?_eq_some_iff.1 h1).1
      refine ⟨n, z, ?_, h2, h3⟩
      have : n ≠ m := fun e => by
        subst e
        rw [hx] at h1
        cases h1
        exact q h2.symm
      rw [List.getElem?_take_of_lt (by omega)]
      exact h1
    · rintro ⟨n, z, h1, h2, h3⟩
      rw [List.getElem?_take] at h1
      split at h1
      · exact ⟨n, z, h1, h2, h3⟩
      · cases h1
theorem take_perm {l : List QI} {m : Nat} {x : QI} (hm : m + 1 = l.length) (hx : l[m]? = some x) : l.Perm (x :: l.take m) := by
  have hlt := (List.getElem?_eq_some_iff.1 hx).1
  have e : l = l.take m ++ [x] := by
    conv => lhs; rw [← List.take_append_drop m l]
    congr 1
    rw [List.drop_eq_getElem_cons hlt, List.drop_eq_nil_iff.2 (by omega), (List.getElem?_eq_some_iff.1 hx).2]
  conv => lhs; rw [e]
  exact List.perm_append_comm
end Go.Proofs.Ytbbdhpjkibbnkaa.EV
