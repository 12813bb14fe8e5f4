/- Due queues, plainly: who is first; new ones put in. No condition. -/
import Derived.Test.YtbbdhpjkibbnkaaDq4
namespace Go.Proofs.Ytbbdhpjkibbnkaa.EV
open Go Go.Proofs
set_option linter.unusedVariables false
set_option linter.unusedSimpArgs false
set_option maxRecDepth 100000
set_option pp.deepTerms false
set_option pp.deepTerms.threshold 20
noncomputable def ltD (x y : RI) : Prop := x.due < y.due ∨ (x.due = y.due ∧ x.id < y.id)
/-- who is due first of those that may come -/
structure FSp (most : Int) (M : List RI) (s : RI × Bool) : Prop where
  no : s.2 = false → s.1 = ⟨0, 0, 0⟩ ∧ ∀ x ∈ M, most < x.key
  yes : s.2 = true → s.1 ∈ M ∧ s.1.key ≤ most ∧ ∀ y ∈ M, y.key ≤ most → ¬ ltD y s.1
theorem foF_sp (l : List RI) : ∀ i, i ≤ l.length → (foF (l.take i) = (⟨0, 0, 0⟩, false) ∧ i = 0) ∨ ((foF (l.take i)).2 = true ∧ (foF (l.take i)).1 ∈ l.take i ∧ ∀ y ∈ l.take i, ¬ ltD y (foF (l.take i)).1)
  | 0, _ => .inl ⟨rfl, rfl⟩
  | i + 1, hi => by
    obtain ⟨x, hx⟩ : ∃ x, l[i]? = some x := ⟨_, List.getElem?_eq_getElem (by omega)⟩
    have e := foF_s hx
    have et : l.take (i + 1) = l.take i ++ [x] := by rw [List.take_add_one, hx]; rfl
    refine .inr ?_
    rw [e]
    have ih := foF_sp l i (by omega)
    rw [et]
    rcases ih with ⟨h1, h2⟩ | ⟨h1, h2, h3⟩
    · rw [h1]
      subst h2
      refine ⟨rfl, by simp [stF], fun y hy => ?_⟩
      have : y = x := by simpa using hy
      subst this
      show ¬ ltD y y
      unfold ltD; omega
    · generalize foF (l.take i) = s at *
      obtain ⟨b, ok⟩ := s
      simp only at h1 h2 h3
      subst h1
      by_cases hb : x.due < b.due ∨ (x.due = b.due ∧ x.id < b.id)
      · have es : stF (b, true) x = (x, true) := if_pos (.inr hb)
        rw [es]
        refine ⟨rfl, List.mem_append_right _ List.mem_cons_self, fun y hy => ?_⟩
        rcases List.mem_append.1 hy with q | q
        · have := h3 y q
          unfold ltD at *
          simp only
          omega
        · have : y = x := by simpa using q
          subst this
          unfold ltD; simp only; omega
      · have es : stF (b, true) x = (b, true) := if_neg (fun e => by
          rcases e with e | e
          · cases e
          · exact hb e)
        rw [es]
        refine ⟨rfl, List.mem_append_left _ h2, fun y hy => ?_⟩
        rcases List.mem_append.1 hy with q | q
        · exact h3 y q
        · have : y = x := by simpa using q
          subst this
          exact hb
theorem FsOf.sp {most : Int} {M : List RI} {s : RI × Bool} (f : FsOf most M s) (so : M.Pairwise fun a b => ¬ ltR b a) : FSp most M s := by
  obtain ⟨i, hi, h1, h2, rfl⟩ := f
  have hsplit := so
  rw [← List.take_append_drop i M, List.pairwise_append] at hsplit
  obtain ⟨_, s2, _⟩ := hsplit
  have hd : ∀ y ∈ M.drop i, most < y.key := fun y hy => by
    cases hdr : M.drop i with
    | nil => rw [hdr] at hy; cases hy
    | cons u t =>
      have hu : M[i]? = some u := by
        have : (M.drop i)[0]? = some u := by rw [hdr]; rfl
        rw [List.getElem?_drop] at this
        exact this
      rw [hdr] at hy s2
      have h3 := h2 u hu
      rcases List.mem_cons.1 hy with rfl | q
      · omega
      · have := (List.pairwise_cons.1 s2).1 y q
        unfold ltR at this
        omega
  have ht : ∀ y ∈ M.take i, y.key ≤ most := fun y hy => by
    obtain ⟨j, hj⟩ := List.getElem?_of_mem hy
    have hji : j < i := by
      have := (List.getElem?_eq_some_iff.1 hj).1
      rw [List.length_take] at this
      omega
    rw [List.getElem?_take_of_lt hji] at hj
    exact h1 j y hji hj
  have hm : ∀ y ∈ M, y ∈ M.take i ∨ y ∈ M.drop i := fun y hy => by
    rw [← List.take_append_drop i M] at hy
    exact List.mem_append.1 hy
  rcases foF_sp M i hi with ⟨e, e0⟩ | ⟨e1, e2, e3⟩
  · rw [e]
    refine ⟨fun _ => ⟨rfl, fun x hx => ?_⟩, fun h => by cases h⟩
    rcases hm x hx with q | q
    · rw [e0] at q; cases q
    · exact hd x q
  · refine ⟨fun h => absurd (e1.symm.trans h) (by decide), fun _ => ⟨List.mem_of_mem_take e2, ht _ e2, fun y hy hk => ?_⟩⟩
    rcases hm y hy with q | q
    · exact e3 y q
    · have := hd y q; omega
/-- there is but one -/
theorem FSp.uniq {most : Int} {M M' : List RI} {s s' : RI × Bool} (f : FSp most M s) (f' : FSp most M' s') (hm : ∀ x, x ∈ M ↔ x ∈ M') (hu : ∀ a ∈ M, ∀ b ∈ M, a.id = b.id → a = b) : s = s' := by
  obtain ⟨b, ok⟩ := s
  obtain ⟨b', ok'⟩ := s'
  cases ok with
  | false =>
    obtain ⟨e, h⟩ := f.no rfl
    cases ok' with
    | false =>
      obtain ⟨e', _⟩ := f'.no rfl
      simp only at e e'
      rw [e, e']
    | true =>
      obtain ⟨h1, h2, _⟩ := f'.yes rfl
      have := h _ ((hm _).2 h1)
      omega
  | true =>
    obtain ⟨h1, h2, h3⟩ := f.yes rfl
    cases ok' with
    | false =>
      obtain ⟨_, h'⟩ := f'.no rfl
      have := h' _ ((hm _).1 h1)
      omega
    | true =>
      obtain ⟨h1', h2', h3'⟩ := f'.yes rfl
      have a1 := h3 _ ((hm _).2 h1') h2'
      have a2 := h3' _ ((hm _).1 h1) h2
      simp only at *
      have : b = b' := hu _ h1 _ ((hm _).2 h1') (by unfold ltD at *; omega)
      rw [this]
theorem wholeL_so (du : Int → Int) (L : List QI) : (wholeL du L).Pairwise fun a b => ¬ ltR b a := by
  unfold wholeL
  rw [List.pairwise_map]
  exact srtQ_sorted L
theorem wholeL_mem {du : Int → Int} {L : List QI} {x : RI} : x ∈ wholeL du L ↔ ∃ y ∈ L, ful du y = x := by
  unfold wholeL
  rw [List.mem_map]
  constructor
  · rintro ⟨y, hy, e⟩
    exact ⟨y, (srtQ_perm L).mem_iff.1 hy, e⟩
  · rintro ⟨y, hy, e⟩
    exact ⟨y, (srtQ_perm L).mem_iff.2 hy, e⟩
theorem mem_uniq {L : List QI} (nd : (L.map (·.id)).Nodup) {x y : QI} (hx : x ∈ L) (hy : y ∈ L) (e : x.id = y.id) : x = y := by
  obtain ⟨i, hi⟩ := List.getElem?_of_mem hx
  obtain ⟨j, hj⟩ := List.getElem?_of_mem hy
  have hi2 : (L.map (·.id))[i]? = some y.id := by rw [List.getElem?_map, hi]; exact congrArg some e
  have hj2 : (L.map (·.id))[j]? = some y.id := by rw [List.getElem?_map, hj]; rfl
  have h1 := (List.getElem?_eq_some_iff.1 hi2).1
  have := (List.getElem?_inj h1 nd).1 (hi2.trans hj2.symm)
  subst this
  rw [hi] at hj
  exact Option.some.inj hj
theorem wholeL_uniq {du : Int → Int} {L : List QI} (nd : (L.map (·.id)).Nodup) : ∀ a ∈ wholeL du L, ∀ b ∈ wholeL du L, a.id = b.id → a = b := fun a ha b hb e => by
  obtain ⟨x, hx, rfl⟩ := wholeL_mem.1 ha
  obtain ⟨y, hy, rfl⟩ := wholeL_mem.1 hb
  rw [mem_uniq nd hx hy e]
theorem dput_new {h : Heap} {B b dm : Nat} {lv : Value} {mb : Nat} {most st : Int} {L : List QI} {du : Int → Int} (q : DQ h B b dm lv mb most st L du) (key due id : Int) (hl : L.length < 800000) (hid : ∀ x ∈ L, x.id ≠ id) (hm : (L.length : Int) ≠ most) :
    WPo (EF Try.prog O0 9 [ptr B 0, .int .i64 key, .int .i64 due, .int .i64 id] h) fun r => r.1 = .int .i64 0 ∧ ∃ lv' L' st', DQ r.2 B b dm lv' mb most st' L' (updD du id due) ∧ Mod (DZ B b dm lv mb) h r.2 ∧ (∀ i, DZ B b dm lv' mb i → DZ B b dm lv mb i ∨ h.next ≤ i) ∧ L'.Perm (⟨key, id⟩ :: L) ∧ (HP L → HP L') := by
  refine (dput_ev q key due id hl).mono ?_
  rintro r (⟨_, _, n, x, hx, e⟩ | ⟨_, ⟨_, _, e⟩ | ⟨e, _, lv', L', st', q', m, w, p, hp⟩⟩)
  · exact absurd e (hid x (List.mem_of_getElem? hx))
  · exact absurd e hm
  · exact ⟨e, lv', L', st', q', m, w, p, hp⟩
end Go.Proofs.Ytbbdhpjkibbnkaa.EV
