/- Rows in order and queues, plainly; 'same'. No condition. -/
import Derived.Test.YtbbdhpjkibbnkaaOqI
import Derived.Test.YtbbdhpjkibbnkaaOq9
import Derived.Test.YtbbdhpjkibbnkaaRw1
namespace Go.Proofs.Ytbbdhpjkibbnkaa.EV
open Go Go.Proofs
set_option linter.unusedVariables false
set_option linter.unusedSimpArgs false
set_option maxRecDepth 100000
set_option pp.deepTerms false
set_option pp.deepTerms.threshold 20
/-- the first of a heap is no more than any -/
theorem HP.first {l : List QI} (h : HP l) {x : QI} (hx : l[0]? = some x) : ∀ (j : Nat) (y : QI), l[j]? = some y → ¬ ltQ y x := by
  intro j
  induction j using Nat.strongRecOn with
  | ind j ih =>
    intro y hy
    by_cases q : j = 0
    · subst q
      rw [hx] at hy
      cases hy
      exact ltQ_irrefl _
    · obtain ⟨p, hp⟩ : ∃ p, l[(j - 1) / 2]? = some p := by
        have := (List.getElem?_eq_some_iff.1 hy).1
        exact ⟨_, List.getElem?_eq_getElem (by omega)⟩
      exact leQ_trans (ih ((j - 1) / 2) (by omega) p hp) (h j (by omega) y p hy hp)
/-- the first of a heap is the first in order -/
theorem first_sorted {l : List QI} (h : HP l) {x : QI} {r : List QI} (e : l = x :: r) {M : List QI} (hp : M.Perm l) (hs : M.Pairwise fun a b => ¬ ltQ b a) : M[0]? = some x := by
  have hx : l[0]? = some x := by rw [e]; rfl
  cases M with
  | nil => rw [e] at hp; have := hp.length_eq; simp at this
  | cons m M =>
    have h1 : ¬ ltQ m x := by
      obtain ⟨j, hj⟩ := List.getElem?_of_mem (hp.mem_iff.1 (List.mem_cons_self ..))
      exact h.first hx j m hj
    have h2 : ¬ ltQ x m := by
      have : x ∈ m :: M := hp.mem_iff.2 (by rw [e]; exact List.mem_cons_self ..)
      rcases List.mem_cons.1 this with rfl | q
      · exact ltQ_irrefl _
      · exact (List.pairwise_cons.1 hs).1 x q
    show some m = some x
    congr 1
    cases m; cases x
    unfold ltQ at h1 h2
    simp only [QI.mk.injEq]
    simp only at h1 h2
    omega
noncomputable def toQ (x : RI) : QI := ⟨x.key, x.id⟩
/-- a row in order tells what a queue holds -/
structure LK (W : List RI) (L : List QI) : Prop where
  pm : (W.map toQ).Perm L
  so : W.Pairwise fun a b => ¬ ltR b a
theorem leR_trans {x y z : RI} (h : ¬ ltR y x) (k : ¬ ltR z y) : ¬ ltR z x := by unfold ltR at *; omega
section
variable {W : List RI} {L L' : List QI}
theorem LK.nil : LK [] [] := ⟨List.Perm.refl _, List.Pairwise.nil⟩
theorem LK.len (k : LK W L) : W.length = L.length := by rw [← k.pm.length_eq, List.length_map]
theorem LK.mapso (k : LK W L) : (W.map toQ).Pairwise fun a b => ¬ ltQ b a := by
  rw [List.pairwise_map]
  exact k.so
theorem LK.srt (k : LK W L) : srtQ L = W.map toQ :=
  ((srtQ_perm L).trans k.pm.symm).eq_of_pairwise (le := fun a b => ¬ ltQ b a) (fun a b _ _ h1 h2 => by
    cases a; cases b
    unfold ltQ at h1 h2
    simp only [QI.mk.injEq]
    simp only at h1 h2
    omega) (srtQ_sorted L) k.mapso
theorem LK.perm (k : LK W L) (p : L'.Perm L) : LK W L' := ⟨k.pm.trans p.symm, k.so⟩
theorem LK.mem (k : LK W L) {id : Int} (h : ∀ (n : Nat) (x : QI), L[n]? = some x → x.id ≠ id) (n : Nat) (x : RI) (hx : W[n]? = some x) : x.id ≠ id := by
  have hm : toQ x ∈ W.map toQ := List.mem_map_of_mem (List.mem_of_getElem? hx)
  obtain ⟨j, hj⟩ := List.getElem?_of_mem (k.pm.mem_iff.1 hm)
  exact h j _ hj
theorem LK.mem' (k : LK W L) {id : Int} (h : ∀ (n : Nat) (x : RI), W[n]? = some x → x.id ≠ id) (n : Nat) (x : QI) (hx : L[n]? = some x) : x.id ≠ id := by
  obtain ⟨y, hy, rfl⟩ := List.mem_map.1 (k.pm.mem_iff.2 (List.mem_of_getElem? hx))
  obtain ⟨j, hj⟩ := List.getElem?_of_mem hy
  exact h j y hj
theorem LK.find (k : LK W L) (nd : (L.map (·.id)).Nodup) {n m : Nat} {x : RI} {y : QI} (hx : W[n]? = some x) (hy : L[m]? = some y) (e : x.id = y.id) : toQ x = y := by
  have hm : toQ x ∈ W.map toQ := List.mem_map_of_mem (List.mem_of_getElem? hx)
  obtain ⟨j, hj⟩ := List.getElem?_of_mem (k.pm.mem_iff.1 hm)
  have hj2 : (L.map (·.id))[j]? = some y.id := by rw [List.getElem?_map, hj]; exact congrArg some e
  have hm2 : (L.map (·.id))[m]? = some y.id := by rw [List.getElem?_map, hy]; rfl
  have : j = m := by
    have h1 := (List.getElem?_eq_some_iff.1 hj2).1
    exact (List.getElem?_inj h1 nd).1 (hj2.trans hm2.symm)
  subst this
  rw [hj] at hy
  exact Option.some.inj hy
theorem LK.ins (k : LK W L) {x : RI} {n : Nat} (hn : n ≤ W.length) (h1 : ∀ j y, j < n → W[j]? = some y → ltR y x) (h2 : ∀ y, W[n]? = some y → ¬ ltR y x) (p : L'.Perm (toQ x :: L)) : LK (W.take n ++ x :: W.drop n) L' := by
  constructor
  · have e : (W.take n ++ x :: W.drop n).Perm (x :: W) := by
      refine List.perm_middle.trans (List.Perm.cons _ ?_)
      rw [List.take_append_drop]
    exact (e.map toQ).trans ((k.pm.cons _).trans p.symm)
  · have hs := k.so
    rw [← List.take_append_drop n W, List.pairwise_append] at hs
    obtain ⟨s1, s2, s3⟩ := hs
    have ha : ∀ a ∈ W.take n, ltR a x := fun a ha => by
      obtain ⟨j, hj⟩ := List.getElem?_of_mem ha
      have hjn : j < n := by
        have := (List.getElem?_eq_some_iff.1 hj).1
        rw [List.length_take] at this
        omega
      rw [List.getElem?_take_of_lt hjn] at hj
      exact h1 j a hjn hj
    have hb : ∀ b ∈ W.drop n, ¬ ltR b x := fun b hb => by
      cases hd : W.drop n with
      | nil => rw [hd] at hb; cases hb
      | cons y t =>
        have hy : W[n]? = some y := by
          have : (W.drop n)[0]? = some y := by rw [hd]; rfl
          rw [List.getElem?_drop] at this
          exact this
        rw [hd] at hb s2
        rcases List.mem_cons.1 hb with rfl | q
        · exact h2 _ hy
        · exact leR_trans (h2 y hy) ((List.pairwise_cons.1 s2).1 b q)
    rw [List.pairwise_append]
    refine ⟨s1, List.pairwise_cons.2 ⟨hb, s2⟩, fun a h b hb' => ?_⟩
    rcases List.mem_cons.1 hb' with rfl | q
    · have := ha a h
      unfold ltR at *
      omega
    · exact s3 a h b q
theorem LK.del (k : LK W L) {x : RI} {n : Nat} (hx : W[n]? = some x) (p : L.Perm (toQ x :: L')) : LK (W.take n ++ W.drop (n + 1)) L' := by
  obtain ⟨hn, e⟩ := List.getElem?_eq_some_iff.1 hx
  have hw : W = W.take n ++ x :: W.drop (n + 1) := by rw [← e, ← List.drop_eq_getElem_cons hn, List.take_append_drop]
  constructor
  · have h1 : W.Perm (x :: (W.take n ++ W.drop (n + 1))) := by
      conv => lhs; rw [hw]
      exact List.perm_middle
    have h2 := (h1.map toQ).symm.trans (k.pm.trans p)
    rw [List.map_cons] at h2
    exact (List.perm_cons _).1 h2
  · have hs := k.so
    rw [hw] at hs
    refine hs.sublist ?_
    exact (List.Sublist.refl _).append (List.sublist_cons_self _ _)
theorem LK.first (k : LK W L) (hp : HP L) {y : QI} {t : List QI} (e : L = y :: t) : ∃ x, W[0]? = some x ∧ toQ x = y := by
  have := first_sorted hp e k.pm k.mapso
  rw [List.getElem?_map] at this
  cases h : W[0]? with
  | none => rw [h] at this; cases this
  | some x =>
    rw [h] at this
    exact ⟨x, rfl, Option.some.inj this⟩
end
theorem bl_up (n : Nat) : bl (n + 1) ≤ bl n + 1 := by
  have h : n < 2 ^ bl n := by
    rcases Nat.lt_or_ge n (2 ^ bl n) with q | q
    · exact q
    · have := bl_ge _ _ q; omega
  refine bl_lt _ _ ?_
  rw [Nat.pow_succ]
  omega
end Go.Proofs.Ytbbdhpjkibbnkaa.EV
