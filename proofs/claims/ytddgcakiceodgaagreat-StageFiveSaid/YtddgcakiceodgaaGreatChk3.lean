/- Plain facts on faults: none just if the form may be; none against another just if both are the same. No condition. -/
import Derived.Test.YtddgcakiceodgaaGreatChk2
namespace Go.Proofs.YtddgcakiceodgaaGreat.EV
open Go Go.Proofs
set_option linter.unusedVariables false
set_option linter.unusedSimpArgs false
theorem ifF_nil (b : Bool) (f : Flt) : ifF b f = [] ↔ b = false := by cases b <;> simp [ifF]
theorem flts_nil (id : Int) (p : Option Item) (x : Item) : flts id (chks p x) = [] ↔ (imay x && !ordBad p x) = true := by
  have e1 : imay x = (!idBad x && (wgood x.w && !lagBad x)) := by
    unfold imay idBad lagBad
    have a1 : decide (x.id < 0) = !decide (0 ≤ x.id) := by by_cases h : 0 ≤ x.id <;> simp [h, Int.not_lt.2, Int.not_le.1] <;> omega
    have a2 : decide (1073741824 < x.id) = !decide (x.id ≤ 1073741824) := by by_cases h : x.id ≤ 1073741824 <;> simp [h] <;> omega
    have a3 : decide (x.lag < -1125899906842624) = !decide (-1125899906842624 ≤ x.lag) := by by_cases h : -1125899906842624 ≤ x.lag <;> simp [h] <;> omega
    have a4 : decide (1125899906842624 < x.lag) = !decide (x.lag ≤ 1125899906842624) := by by_cases h : x.lag ≤ 1125899906842624 <;> simp [h] <;> omega
    rw [a1, a2, a3, a4]
    cases decide (0 ≤ x.id) <;> cases decide (x.id ≤ 1073741824) <;> cases wgood x.w <;> cases decide (-1125899906842624 ≤ x.lag) <;> cases decide (x.lag ≤ 1125899906842624) <;> rfl
  rw [e1]
  unfold flts chks
  cases idBad x <;> cases ordBad p x <;> cases wgood x.w <;> cases lagBad x <;> simp
theorem fGo_nil : ∀ (p : Option Item) (l : List Item), fGo p l = [] ↔ ordOk p l = true
  | none, [] => by simp [fGo, ordOk]
  | some y, [] => by simp [fGo, ordOk]
  | none, x :: l => by
    simp only [fGo, List.append_eq_nil_iff, flts_nil, fGo_nil (some x) l, ordOk, ordBad, Bool.not_false, Bool.and_true, Bool.and_eq_true]
  | some y, x :: l => by
    have e : ordBad (some y) x = !decide (y.id < x.id) := by
      unfold ordBad
      by_cases h : y.id < x.id <;> simp [h] <;> omega
    simp only [fGo, List.append_eq_nil_iff, flts_nil, fGo_nil (some x) l, ordOk, e, Bool.not_not, Bool.and_eq_true, and_assoc]
theorem formF_nil (c : Int) (l : List Item) : formF c l = [] ↔ goodF c l = true := by
  unfold formF goodF
  simp only [List.append_eq_nil_iff, fGo_nil, ifF_nil]
  have h1 : l.all neg = !l.any lagOk := by
    rw [List.all_eq_not_any_not]
    congr 2
    funext x
    unfold neg lagOk
    by_cases h : x.lag < 0 <;> simp [h] <;> omega
  rw [h1]
  by_cases h64 : l.length ≤ 64
  · have d1 : decide (64 < (l.length : Int)) = false := decide_eq_false (by omega)
    rw [d1, decide_eq_true h64]
    by_cases h0 : l.length = 0
    · have d2 : decide ((l.length : Int) > 0) = false := decide_eq_false (by omega)
      rw [d2, decide_eq_true h0]
      cases ordOk none l <;> cases l.any (byId c) <;> cases decide (c = -1) <;> simp
    · have d2 : decide ((l.length : Int) > 0) = true := decide_eq_true (by omega)
      rw [d2, decide_eq_false h0]
      cases ordOk none l <;> cases l.any (byId c) <;> cases decide (c = -1) <;> cases l.any lagOk <;> simp
  · have d1 : decide (64 < (l.length : Int)) = true := decide_eq_true (by omega)
    rw [d1, decide_eq_false h64]
    simp
theorem len0 {α : Type} (l : List α) : decide ((l.length : Int) = 0) = true ↔ l = [] := by
  rw [decide_eq_true_eq]
  constructor
  · intro h; exact List.length_eq_zero_iff.1 (by omega)
  · rintro rfl; rfl
theorem form_good (c : Int) (l : List Item) : decide (((formF c l).length : Int) = 0) = goodF c l := by
  rw [Bool.eq_iff_iff, len0, formF_nil]
/-- in order -/
noncomputable def Ord (l : List Item) : Prop := l.Pairwise fun x y => x.id < y.id
theorem ordOk_ord : ∀ (p : Option Item) (l : List Item), ordOk p l = true → Ord l ∧ ∀ y, p = some y → ∀ x ∈ l, y.id < x.id
  | _, [], _ => ⟨List.Pairwise.nil, fun _ _ _ h => by cases h⟩
  | none, x :: l, h => by
    simp only [ordOk, Bool.and_eq_true] at h
    obtain ⟨h1, h2⟩ := ordOk_ord (some x) l h.2
    exact ⟨List.Pairwise.cons (h2 x rfl) h1, fun y e => by cases e⟩
  | some y, x :: l, h => by
    simp only [ordOk, Bool.and_eq_true, decide_eq_true_eq] at h
    obtain ⟨h1, h2⟩ := ordOk_ord (some x) l h.2.2
    refine ⟨List.Pairwise.cons (h2 x rfl) h1, fun z e w hw => ?_⟩
    cases e
    rcases List.mem_cons.1 hw with rfl | hw
    · exact h.2.1
    · exact Int.lt_trans h.2.1 (h2 x rfl w hw)
theorem good_ord {c : Int} {l : List Item} (h : goodF c l = true) : Ord l := by
  unfold goodF at h
  simp only [Bool.and_eq_true] at h
  exact (ordOk_ord none l h.2.2.1).1
theorem ord_uniq {l : List Item} (h : Ord l) : ∀ x ∈ l, ∀ y ∈ l, x.id = y.id → x = y := by
  induction l with
  | nil => intro x hx; cases hx
  | cons a l ih =>
    obtain ⟨h1, h2⟩ := List.pairwise_cons.1 h
    intro x hx y hy e
    rcases List.mem_cons.1 hx with e1 | e1 <;> rcases List.mem_cons.1 hy with e2 | e2
    · rw [e1, e2]
    · have := h1 y e2; rw [e1] at e; omega
    · have := h1 x e1; rw [e2] at e; omega
    · exact ih h2 x e1 y e2 e
theorem ord_ext : ∀ (l m : List Item), Ord l → Ord m → (∀ x, x ∈ l ↔ x ∈ m) → l = m
  | [], [], _, _, _ => rfl
  | [], b :: m, _, _, h => by have := (h b).2 (List.mem_cons_self ..); cases this
  | a :: l, [], _, _, h => by have := (h a).1 (List.mem_cons_self ..); cases this
  | a :: l, b :: m, hl, hm, h => by
    obtain ⟨l1, l2⟩ := List.pairwise_cons.1 hl
    obtain ⟨m1, m2⟩ := List.pairwise_cons.1 hm
    have e : a = b := by
      rcases List.mem_cons.1 ((h a).1 (List.mem_cons_self ..)) with q | q
      · exact q
      · rcases List.mem_cons.1 ((h b).2 (List.mem_cons_self ..)) with r | r
        · exact r.symm
        · have := m1 a q; have := l1 b r; omega
    subst e
    rw [ord_ext l m l2 m2 fun x => ?_]
    constructor
    · intro hx
      rcases List.mem_cons.1 ((h x).1 (List.mem_cons_of_mem _ hx)) with q | q
      · subst q; have := l1 x hx; omega
      · exact q
    · intro hx
      rcases List.mem_cons.1 ((h x).2 (List.mem_cons_of_mem _ hx)) with q | q
      · subst q; have := m1 x hx; omega
      · exact q
theorem any_id {l : List Item} {i : Int} : l.any (byId i) = true ↔ ∃ x ∈ l, x.id = i := by
  rw [List.any_eq_true]
  simp [byId]
theorem fndR_mem {l : List Item} {i : Int} (h : l.any (byId i) = true) : fndR i l ∈ l ∧ (fndR i l).id = i := by
  obtain ⟨k, x, e1, e2, e3⟩ := idx_any h
  unfold fndR
  rw [e3]
  have := List.find?_some e3
  simp only [byId, decide_eq_true_eq] at this
  exact ⟨List.mem_of_getElem? e2, this⟩
theorem fndR_of {l : List Item} (ho : Ord l) {x : Item} (hx : x ∈ l) : l.any (byId x.id) = true ∧ fndR x.id l = x := by
  have h : l.any (byId x.id) = true := any_id.2 ⟨x, hx, rfl⟩
  obtain ⟨h1, h2⟩ := fndR_mem h
  exact ⟨h, ord_uniq ho _ h1 _ hx h2⟩
theorem wantF_nil {l : List Item} {x : Item} : wantF l x = [] ↔ x ∈ l ∧ fndR x.id l = x ∨ l.any (byId x.id) = true ∧ fndR x.id l = x := by
  unfold wantF
  cases h : l.any (byId x.id) with
  | false =>
    rw [if_neg (by simp)]
    constructor
    · intro e; cases e
    · rintro (⟨hx, _⟩ | ⟨e, _⟩)
      · have := any_id.2 ⟨x, hx, rfl⟩; rw [h] at this; cases this
      · cases e
  | true =>
    rw [if_pos rfl]
    obtain ⟨h1, h2⟩ := fndR_mem h
    simp only [List.append_eq_nil_iff, ifF_nil, Bool.not_eq_false', decide_eq_true_eq]
    constructor
    · rintro ⟨a, b⟩
      refine .inr ⟨trivial, ?_⟩
      generalize fndR x.id l = y at *
      cases x; cases y
      simp only at h2 a b
      subst h2; subst a; subst b; rfl
    · rintro (⟨_, e⟩ | ⟨_, e⟩) <;> (rw [e]; exact ⟨rfl, rfl⟩)
theorem flat_nil {α β : Type} {f : α → List β} {l : List α} : l.flatMap f = [] ↔ ∀ x ∈ l, f x = [] := by
  rw [List.flatMap_eq_nil_iff]
theorem diffF_nil {c1 c2 : Int} {l m : List Item} (hl : Ord l) (hm : Ord m) : diffF c1 l c2 m = [] ↔ c1 = c2 ∧ l = m := by
  unfold diffF
  simp only [List.append_eq_nil_iff, ifF_nil, Bool.not_eq_false', decide_eq_true_eq, flat_nil]
  constructor
  · rintro ⟨⟨h1, h2⟩, h3⟩
    refine ⟨h3, ord_ext l m hl hm fun x => ?_⟩
    have sub : ∀ y ∈ m, y ∈ l := fun y hy => by
      rcases wantF_nil.1 (h1 y hy) with ⟨q, _⟩ | ⟨q, e⟩
      · exact q
      · rw [← e]; exact (fndR_mem q).1
    refine ⟨fun hx => ?_, sub x⟩
    have := h2 x hx
    unfold gotF at this
    rw [ifF_nil, Bool.not_eq_false'] at this
    obtain ⟨y, hy, e⟩ := any_id.1 this
    rw [← ord_uniq hl y (sub y hy) x hx e]
    exact hy
  · rintro ⟨rfl, rfl⟩
    refine ⟨⟨fun x hx => wantF_nil.2 (.inl ⟨hx, (fndR_of hl hx).2⟩), fun x hx => ?_⟩, rfl⟩
    unfold gotF
    rw [ifF_nil, (fndR_of hl hx).1]
    rfl
theorem faults_same {c1 c2 : Int} {l m : List Item} (hg : goodF c2 m = true) : decide (((faultsF c1 l c2 m).length : Int) = 0) = (decide (c1 = c2) && decide (l = m)) := by
  rw [Bool.eq_iff_iff, len0]
  simp only [Bool.and_eq_true, decide_eq_true_eq]
  unfold faultsF
  by_cases h : formF c1 l = []
  · rw [h, if_neg (by simp)]
    exact diffF_nil (good_ord ((formF_nil c1 l).1 h)) (good_ord hg)
  · have hlen : decide (((formF c1 l).length : Int) > 0) = true := by
      rw [decide_eq_true_eq]
      have : (formF c1 l).length ≠ 0 := fun e => h (List.length_eq_zero_iff.1 e)
      omega
    rw [if_pos hlen]
    constructor
    · intro e; exact (h e).elim
    · rintro ⟨rfl, rfl⟩
      exact ((h ((formF_nil _ _).2 hg))).elim
end Go.Proofs.YtddgcakiceodgaaGreat.EV
