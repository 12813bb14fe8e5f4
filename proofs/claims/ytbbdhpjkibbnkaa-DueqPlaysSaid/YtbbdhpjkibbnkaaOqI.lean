/- Items of queues, compared. No condition. -/
import Derived.Test.YtbbdhpjkibbnkaaOq8
namespace Go.Proofs.Ytbbdhpjkibbnkaa.EV
open Go Go.Proofs
set_option linter.unusedVariables false
set_option linter.unusedSimpArgs false
set_option maxRecDepth 100000
noncomputable def qEq (x y : QI) : Bool := decide (x.key = y.key) && decide (x.id = y.id)
theorem qEq_iff (x y : QI) : qEq x y = true ↔ x = y := by
  cases x; cases y; simp [qEq]
noncomputable def qC (a b : QI) (f : Field) : Bool := match f.offset with
  | 0 => decide (a.key = b.key)
  | _ => decide (a.id = b.id)
theorem qE_flatV (x : QI) : (qE x).all flat1 = true := rfl
theorem q_equal (a b : QI) : absPure Try.prog (Op.equal 69 (.agg ⟨qE a⟩) (.agg ⟨qE b⟩)) = some (qEq a b) := by
  rw [eq_struct Try.underlying69 (by kernel_rfl) (qC a b)]
  · simp [qC, qEq]
  · intro f hf
    simp only [List.mem_cons, List.not_mem_nil, or_false] at hf
    rcases hf with rfl | rfl <;> exact ⟨by decide, by kernel_rfl⟩
theorem q_eql (x y : Operand) (a b : QI) : evBin Try.prog .eql 69 x y (.agg ⟨[.int .i64 a.key, .int .i64 a.id]⟩) (.agg ⟨[.int .i64 b.key, .int .i64 b.id]⟩) = some (.bool (qEq a b)) := bin_eqlS (q_equal a b) (by kernel_rfl) rfl rfl
theorem q_neq (x y : Operand) (a b : QI) : evBin Try.prog .neq 69 x y (.agg ⟨[.int .i64 a.key, .int .i64 a.id]⟩) (.agg ⟨[.int .i64 b.key, .int .i64 b.id]⟩) = some (.bool (!qEq a b)) := bin_neqS (q_equal a b) (by kernel_rfl) rfl rfl
theorem srtQ_eq {l m : List QI} (h : l.Perm m) : srtQ l = srtQ m :=
  ((srtQ_perm l).trans (h.trans (srtQ_perm m).symm)).eq_of_pairwise (le := fun a b => ¬ ltQ b a) (fun a b _ _ h1 h2 => by
    cases a; cases b
    unfold ltQ at h1 h2
    simp only [QI.mk.injEq]
    simp only at h1 h2
    omega) (srtQ_sorted l) (srtQ_sorted m)
/-- numbered, from nought -/
noncomputable def itm (l : List Int) : List QI := l.zipIdx.map fun p => ⟨p.1, (p.2 : Int)⟩
theorem itm_len (l : List Int) : (itm l).length = l.length := by unfold itm; rw [List.length_map, List.length_zipIdx]
theorem itm_get (l : List Int) (i : Nat) : (itm l)[i]? = (l[i]?).map fun k => (⟨k, (i : Int)⟩ : QI) := by
  unfold itm
  rw [List.getElem?_map, List.getElem?_zipIdx]
  cases l[i]? with
  | none => rfl
  | some x => simp
theorem itm_app (l : List Int) (k : Int) : itm (l ++ [k]) = itm l ++ [⟨k, (l.length : Int)⟩] := by
  unfold itm
  rw [List.zipIdx_append, List.map_append]
  simp
theorem itm_mem {l : List Int} {x : QI} (h : x ∈ itm l) : ∃ i : Nat, x.id = (i : Int) ∧ l[i]? = some x.key := by
  obtain ⟨i, hi⟩ := List.getElem?_of_mem h
  rw [itm_get] at hi
  cases hk : l[i]? with
  | none => rw [hk] at hi; cases hi
  | some k =>
    rw [hk] at hi
    cases hi
    exact ⟨i, rfl, hk⟩
theorem itm_take {l : List Int} {i : Nat} {k : Int} (h : l[i]? = some k) : itm (l.take (i + 1)) = itm (l.take i) ++ [⟨k, (i : Int)⟩] := by
  have hi := (List.getElem?_eq_some_iff.1 h).1
  have : l.take (i + 1) = l.take i ++ [k] := by rw [List.take_add_one, h]; rfl
  rw [this, itm_app, List.length_take, Nat.min_eq_left (by omega)]
theorem QR.uniq {h : Heap} {b : Nat} {lv : Value} {mb : Nat} {most st : Int} {l : List QI} (q : QR h b lv mb most st l) {n m : Nat} {x y : QI} (hx : l[n]? = some x) (hy : l[m]? = some y) (e : x.id = y.id) : n = m := by
  obtain ⟨_, _, f, _, _, a⟩ := q.mp
  exact a.uniq hx hy e
theorem QR.nodup {h : Heap} {b : Nat} {lv : Value} {mb : Nat} {most st : Int} {l : List QI} (q : QR h b lv mb most st l) : (l.map (·.id)).Nodup := by
  refine List.pairwise_iff_getElem.2 fun i j hi hj hij e => ?_
  rw [List.length_map] at hi hj
  rw [List.getElem_map, List.getElem_map] at e
  have := q.uniq (List.getElem?_eq_getElem hi) (List.getElem?_eq_getElem hj) e
  omega
theorem QR.blk {h : Heap} {b : Nat} {lv : Value} {mb : Nat} {most st : Int} {l : List QI} (q : QR h b lv mb most st l) {i : Nat} (hi : QS b lv mb i) : i < h.next := by
  rcases hi with e | e | e
  · rw [e]; exact q.bl
  · rw [e]; exact q.ml
  · exact q.ow.lt e
theorem put_new {h : Heap} {b : Nat} {lv : Value} {mb : Nat} {most st : Int} {l : List QI} (q : QR h b lv mb most st l) (key id : Int) (hl : l.length < 800000) (hid : ∀ x ∈ l, x.id ≠ id) (hm : (l.length : Int) ≠ most) :
    WPo (EF Try.prog O0 23 [ptr b 0, .int .i64 key, .int .i64 id] h) fun r => r.1 = .int .i64 0 ∧ ∃ lv' l' st', QR r.2 b lv' mb most st' l' ∧ Mod (QS b lv mb) h r.2 ∧ (∀ i, QS b lv' mb i → QS b lv mb i ∨ h.next ≤ i) ∧ l'.Perm (⟨key, id⟩ :: l) ∧ (HP l → HP l') := by
  refine (qput_ev q key id hl).mono ?_
  rintro r (⟨_, _, n, x, hx, e⟩ | ⟨_, ⟨_, _, e⟩ | ⟨e, _, lv', l', st', n, q', m, w, p, hp, _, _⟩⟩)
  · exact absurd e (hid x (List.mem_of_getElem? hx))
  · exact absurd e hm
  · refine ⟨e, lv', l', st', q', m, fun i hi => ?_, p, hp⟩
    rcases hi with k | k | k
    · exact .inl (.inl k)
    · exact .inl (.inr (.inl k))
    · rcases w i k with j | j
      · exact .inl (.inr (.inr j))
      · exact .inr j
theorem HP.nil : HP [] := fun j h x y hx => by simp at hx
end Go.Proofs.Ytbbdhpjkibbnkaa.EV
