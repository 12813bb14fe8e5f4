/- Maps with whole numbers for keys: what is looked up, set, struck out. No condition. -/
import Derived.Test.YtddgcakiceodgaaGreatSy7
namespace Go.Proofs.YtddgcakiceodgaaGreat.EV
open Go Go.Proofs
set_option linter.unusedVariables false
set_option linter.unusedSimpArgs false
noncomputable def ekey (e : MapEntry) : Int := match e.key with
  | .int _ n => n
  | _ => 0
structure MapOK (es : List MapEntry) (clk : Nat) : Prop where
  key : ∀ e ∈ es, e.key = .int .i64 (ekey e)
  nd : (es.map ekey).Nodup
  bnd : (es.map (·.born)).Nodup
  lt : ∀ e ∈ es, e.born < clk
/-- what the entries say -/
structure MR (es : List MapEntry) (clk : Nat) (f : Int → Option Value) : Prop extends MapOK es clk where
  says : ∀ k v, f k = some v ↔ ∃ e ∈ es, ekey e = k ∧ e.val = v
theorem findE_spec (k : Int) : ∀ (es : List MapEntry) (i : Nat), (∀ e ∈ es, e.key = .int .i64 (ekey e)) →
    ((∀ e ∈ es, ekey e ≠ k) ∧ findE .i64 k es i = some none) ∨ ∃ j e, es[j]? = some e ∧ ekey e = k ∧ findE .i64 k es i = some (some (i + j, e.val))
  | [], i, _ => .inl ⟨fun _ h => (by cases h), rfl⟩
  | e :: es, i, h => by
    have hk := h e (List.mem_cons_self ..)
    have e1 : findE .i64 k (e :: es) i = cnd (decide (k = ekey e)) (some (some (i, e.val))) (findE .i64 k es (Nat.succ i)) := by
      conv => lhs; unfold findE
      rw [hk]
      show cnd (decide (IntKind.i64 = IntKind.i64)) _ _ = _
      rw [decide_eq_true rfl]; rfl
    by_cases q : k = ekey e
    · refine .inr ⟨0, e, rfl, q.symm, ?_⟩
      rw [e1, decide_eq_true q]; rfl
    · rw [e1, decide_eq_false q, cnd_false]
      rcases findE_spec k es (Nat.succ i) (fun x hx => h x (List.mem_cons_of_mem _ hx)) with ⟨h1, h2⟩ | ⟨j, x, h1, h2, h3⟩
      · refine .inl ⟨fun x hx => ?_, h2⟩
        rcases List.mem_cons.1 hx with rfl | hx
        · exact fun e => q e.symm
        · exact h1 x hx
      · exact .inr ⟨j + 1, x, h1, h2, by rw [h3, Nat.succ_eq_add_one, Nat.add_assoc, Nat.add_comm 1 j]⟩
section
variable {es : List MapEntry} {clk : Nat} {f : Int → Option Value}
theorem key_at (m : MapOK es clk) {i j : Nat} {a b : MapEntry} (h1 : es[i]? = some a) (h2 : es[j]? = some b) (h : ekey a = ekey b) : i = j := by
  obtain ⟨l1, rfl⟩ := List.getElem?_eq_some_iff.1 h1
  obtain ⟨l2, rfl⟩ := List.getElem?_eq_some_iff.1 h2
  have hp := List.pairwise_iff_getElem.1 m.nd
  rcases Nat.lt_trichotomy i j with q | q | q
  · exact absurd (by rw [List.getElem_map, List.getElem_map]; exact h) (hp i j (by simpa using l1) (by simpa using l2) q)
  · exact q
  · exact absurd (by rw [List.getElem_map, List.getElem_map]; exact h.symm) (hp j i (by simpa using l2) (by simpa using l1) q)
theorem MR.find (m : MR es clk f) (k : Int) : (f k = none ∧ (∀ e ∈ es, ekey e ≠ k) ∧ findE .i64 k es 0 = some none) ∨ ∃ j e, f k = some e.val ∧ es[j]? = some e ∧ ekey e = k ∧ findE .i64 k es 0 = some (some (j, e.val)) := by
  rcases findE_spec k es 0 m.key with ⟨h1, h2⟩ | ⟨j, e, h1, h2, h3⟩
  · refine .inl ⟨?_, h1, h2⟩
    cases hf : f k with
    | none => rfl
    | some v =>
      obtain ⟨e, he, hk, _⟩ := (m.says k v).1 hf
      exact absurd hk (h1 e he)
  · rw [Nat.zero_add] at h3
    exact .inr ⟨j, e, (m.says k e.val).2 ⟨e, List.mem_of_getElem? h1, h2, rfl⟩, h1, h2, h3⟩
theorem MR.nil : MR [] 0 (fun _ => none) := ⟨⟨fun _ h => (by cases h), List.Pairwise.nil, List.Pairwise.nil, fun _ h => (by cases h)⟩, fun k v => ⟨fun h => (by cases h), fun ⟨e, h, _⟩ => (by cases h)⟩⟩
noncomputable def upd (f : Int → Option Value) (k : Int) (v : Option Value) (x : Int) : Option Value := if x = k then v else f x
theorem mod_mem {j : Nat} {e : MapEntry} (h : es[j]? = some e) (g : MapEntry → MapEntry) (x : MapEntry) : x ∈ es.modify j g ↔ x = g e ∨ ∃ i, i ≠ j ∧ es[i]? = some x := by
  constructor
  · intro hx
    obtain ⟨i, hi⟩ := List.getElem?_of_mem hx
    rw [List.getElem?_modify] at hi
    by_cases q : j = i
    · subst q
      rw [h] at hi
      simp at hi
      exact .inl hi.symm
    · simp [q] at hi
      exact .inr ⟨i, fun e => q e.symm, hi⟩
  · rintro (rfl | ⟨i, q, hi⟩)
    · apply List.mem_of_getElem? (i := j)
      rw [List.getElem?_modify, h]; simp
    · apply List.mem_of_getElem? (i := i)
      have q' : ¬ j = i := fun e => q e.symm
      rw [List.getElem?_modify, hi]; simp [q']
theorem MR.modify (m : MR es clk f) {j : Nat} {e : MapEntry} {k : Int} (h : es[j]? = some e) (hk : ekey e = k) (v : Value) : MR (es.modify j fun e => { e with val := v }) clk (upd f k (some v)) := by
  have hm := mod_mem h (fun e => { e with val := v })
  have hke : ∀ (e : MapEntry) (v : Value), ekey { e with val := v } = ekey e := fun _ _ => rfl
  have kk : (es.modify j fun e => { e with val := v }).map ekey = es.map ekey := by
    apply List.ext_getElem?
    intro i
    rw [List.getElem?_map, List.getElem?_map, List.getElem?_modify]
    cases es[i]? with
    | none => rfl
    | some x =>
      by_cases q : j = i
      · simp [q]; rfl
      · simp [q]
  have bb : (es.modify j fun e => { e with val := v }).map (·.born) = es.map (·.born) := by
    apply List.ext_getElem?
    intro i
    rw [List.getElem?_map, List.getElem?_map, List.getElem?_modify]
    cases es[i]? with
    | none => rfl
    | some x =>
      by_cases q : j = i
      · simp [q]
      · simp [q]
  refine ⟨⟨fun x hx => ?_, by rw [kk]; exact m.nd, by rw [bb]; exact m.bnd, fun x hx => ?_⟩, fun k' v' => ?_⟩
  · rcases (hm x).1 hx with rfl | ⟨i, _, hi⟩
    · exact m.key e (List.mem_of_getElem? h)
    · exact m.key x (List.mem_of_getElem? hi)
  · rcases (hm x).1 hx with rfl | ⟨i, _, hi⟩
    · exact m.lt e (List.mem_of_getElem? h)
    · exact m.lt x (List.mem_of_getElem? hi)
  · unfold upd
    by_cases q : k' = k
    · rw [if_pos q]
      subst q
      constructor
      · intro e'
        cases e'
        exact ⟨_, (hm _).2 (.inl rfl), hk, rfl⟩
      · rintro ⟨x, hx, h1, h2⟩
        rcases (hm x).1 hx with rfl | ⟨i, hi, hi'⟩
        · rw [← h2]
        · exact absurd (key_at m.toMapOK hi' h (h1.trans hk.symm)) hi
    · rw [if_neg q, m.says]
      constructor
      · rintro ⟨x, hx, h1, h2⟩
        obtain ⟨i, hi⟩ := List.getElem?_of_mem hx
        refine ⟨x, (hm x).2 (.inr ⟨i, fun e' => ?_, hi⟩), h1, h2⟩
        subst e'
        rw [h] at hi
        cases hi
        exact q (h1.symm.trans hk)
      · rintro ⟨x, hx, h1, h2⟩
        rcases (hm x).1 hx with rfl | ⟨i, _, hi'⟩
        · exact absurd (h1.symm.trans hk) q
        · exact ⟨x, List.mem_of_getElem? hi', h1, h2⟩
theorem MR.append (m : MR es clk f) {k : Int} (h : ∀ e ∈ es, ekey e ≠ k) (v : Value) : MR (es ++ [{ key := .int .i64 k, val := v, born := clk }]) (clk + 1) (upd f k (some v)) := by
  refine ⟨⟨fun x hx => ?_, ?_, ?_, fun x hx => ?_⟩, fun k' v' => ?_⟩
  · rcases List.mem_append.1 hx with q | q
    · exact m.key x q
    · rw [List.mem_singleton.1 q]; rfl
  · rw [List.map_append, List.nodup_append]
    refine ⟨m.nd, by simp, fun a ha b hb e => ?_⟩
    obtain ⟨x, hx, rfl⟩ := List.mem_map.1 ha
    simp only [List.map_cons, List.map_nil, List.mem_singleton] at hb
    exact h x hx (e.trans hb)
  · rw [List.map_append, List.nodup_append]
    refine ⟨m.bnd, by simp, fun a ha b hb e => ?_⟩
    obtain ⟨x, hx, rfl⟩ := List.mem_map.1 ha
    simp only [List.map_cons, List.map_nil, List.mem_singleton] at hb
    have := m.lt x hx
    omega
  · rcases List.mem_append.1 hx with q | q
    · exact Nat.lt_succ_of_lt (m.lt x q)
    · rw [List.mem_singleton.1 q]; exact Nat.lt_succ_self _
  · unfold upd
    by_cases q : k' = k
    · rw [if_pos q]
      subst q
      constructor
      · intro e'
        cases e'
        exact ⟨_, List.mem_append.2 (.inr (List.mem_singleton.2 rfl)), rfl, rfl⟩
      · rintro ⟨x, hx, h1, h2⟩
        rcases List.mem_append.1 hx with p | p
        · exact absurd h1 (h x p)
        · rw [List.mem_singleton.1 p] at h2; rw [← h2]
    · rw [if_neg q, m.says]
      constructor
      · rintro ⟨x, hx, h1, h2⟩
        exact ⟨x, List.mem_append.2 (.inl hx), h1, h2⟩
      · rintro ⟨x, hx, h1, h2⟩
        rcases List.mem_append.1 hx with p | p
        · exact ⟨x, p, h1, h2⟩
        · rw [List.mem_singleton.1 p] at h1
          exact absurd h1.symm q
theorem MR.erase (m : MR es clk f) {j : Nat} {e : MapEntry} {k : Int} (h : es[j]? = some e) (hk : ekey e = k) : MR (es.eraseIdx j) clk (upd f k none) := by
  have hs := List.eraseIdx_sublist es j
  refine ⟨⟨fun x hx => m.key x (hs.subset hx), (hs.map ekey).nodup m.nd, (hs.map (·.born)).nodup m.bnd, fun x hx => m.lt x (hs.subset hx)⟩, fun k' v' => ?_⟩
  have hme : ∀ x, x ∈ es.eraseIdx j ↔ ∃ i, i ≠ j ∧ es[i]? = some x := fun x => List.mem_eraseIdx_iff_getElem?
  unfold upd
  by_cases q : k' = k
  · rw [if_pos q]
    subst q
    constructor
    · intro e'; cases e'
    · rintro ⟨x, hx, h1, _⟩
      obtain ⟨i, hi, hi'⟩ := (hme x).1 hx
      exact absurd (key_at m.toMapOK hi' h (h1.trans hk.symm)) hi
  · rw [if_neg q, m.says]
    constructor
    · rintro ⟨x, hx, h1, h2⟩
      obtain ⟨i, hi⟩ := List.getElem?_of_mem hx
      refine ⟨x, (hme x).2 ⟨i, fun e' => ?_, hi⟩, h1, h2⟩
      subst e'
      rw [h] at hi
      cases hi
      exact q (h1.symm.trans hk)
    · rintro ⟨x, hx, h1, h2⟩
      exact ⟨x, hs.subset hx, h1, h2⟩
theorem findB_spec : ∀ (es : List MapEntry) (i j : Nat) (e : MapEntry), (es.map (·.born)).Nodup → es[j]? = some e → findB (e.born : Int) es i = some (i + j)
  | [], i, j, e, _, h => by simp at h
  | x :: es, i, j, e, hn, h => by
    unfold findB
    rw [List.map_cons, List.nodup_cons] at hn
    cases j with
    | zero =>
      simp only [List.getElem?_cons_zero, Option.some.injEq] at h
      subst h
      rw [decide_eq_true rfl]; rfl
    | succ j =>
      simp only [List.getElem?_cons_succ] at h
      have : ¬ ((x.born : Int) = (e.born : Int)) := fun q => hn.1 (List.mem_map.2 ⟨e, List.mem_of_getElem? h, by omega⟩)
      rw [decide_eq_false this, cnd_false, findB_spec es (Nat.succ i) j e hn.2 h, Nat.succ_eq_add_one, Nat.add_assoc, Nat.add_comm 1 j]
end
/-! ## the operations -/
section
variable {P : Program} {O : Orc} {tm : Fr} {h : Heap} {ms : List Nat}
noncomputable def ENTV (h : Heap) (z : Value) (m k : Value) : VH := ob (asMapV m) fun r => ob (asIntV k) fun k => ob (mapB (h.get r)) fun es =>
    ob (findE k.1 k.2 es.1 0) fun res => match res with
      | some (i, v) => ob (es.1[i]?) fun e => some (.tuple #[v, goInt e.born], h.set r (.map es.1 es.2))
      | none => some (.tuple #[z, goInt es.2], h.set r (.map (es.1 ++ [{ key := .int k.1 k.2, val := z, born := es.2 }]) (es.2 + 1)))
noncomputable def ESTV (h : Heap) (m s v : Value) : VH := ob (asMapV m) fun r => ob (asIntV s) fun b => ob (mapB (h.get r)) fun es =>
    ob (findB b.2 es.1 0) fun i => some (undef, h.set r (.map (es.1.modify i fun e => { e with val := v }) es.2))
theorem ent_s (t : TypeId) (m k : Operand) (hs : (mpT P t).isSome = true) : ROP P O (.mapEntry t m k) ⟨tm, h, ms⟩ = ob (mpT P t) fun z => ob (opnd tm m) fun m => ob (opnd tm k) fun k => ENTV h z m k := by
  obtain ⟨z, hb⟩ := isSome_get hs
  rw [hb]
  unfold mpT at hb
  obtain ⟨d, h2, hb⟩ := ob_inv hb
  obtain ⟨e, h3, hb⟩ := ob_inv hb
  obtain ⟨f, h4, hb⟩ := ob_inv hb
  obtain ⟨g1, hb⟩ := gd_inv hb
  obtain ⟨v, h1, hb⟩ := ob_inv hb
  cases hb
  have e0 : ROP P O (.mapEntry t m k) ⟨tm, h, ms⟩ = evMapEntry P tm h t m k := by unfold ROP; rfl
  rw [e0]
  unfold evMapEntry ENTV
  simp only [h2, ob_some, h3, h4, g1, gd_true, h1]
  cases opnd tm m with
  | none => rfl
  | some m =>
    simp only [ob_some]
    cases asMapV m with
    | none => simp only [ob_none, ob_nn]
    | some r => rfl
theorem est_s (t : TypeId) (m s x : Operand) : ROP P O (.entryStore t m s x) ⟨tm, h, ms⟩ = ob (opnd tm m) fun m => ob (opnd tm s) fun s => ob (opnd tm x) fun v => ESTV h m s v := by
  have e0 : ROP P O (.entryStore t m s x) ⟨tm, h, ms⟩ = evEntryStore tm h m s x := by unfold ROP; rfl
  rw [e0]
  unfold evEntryStore ESTV
  cases opnd tm m with
  | none => rfl
  | some m =>
    simp only [ob_some]
    cases asMapV m with
    | none => simp only [ob_none, ob_nn]
    | some r =>
      simp only [ob_some]
      cases opnd tm s with
      | none => rfl
      | some s =>
        simp only [ob_some]
        cases asIntV s with
        | none => simp only [ob_none, ob_nn]
        | some b =>
          simp only [ob_some]
variable {r : Nat} {es : List MapEntry} {clk : Nat} {f : Int → Option Value}
theorem look_some (hg : h.get r = .map es clk) (m : MR es clk f) {k : Int} {v z : Value} (hk : f k = some v) : LOOK h z (.map (some r)) (.int .i64 k) true = some (.tuple ⟨[v, .bool true]⟩, h) := by
  rcases m.find k with ⟨h1, _, _⟩ | ⟨j, e, h1, h2, h3, h4⟩
  · rw [h1] at hk; cases hk
  · rw [h1] at hk
    cases hk
    unfold LOOK
    show ob (some r) (fun r => ob (some (IntKind.i64, k)) fun k => ob (mapB (h.get r)) _) = _
    rw [ob_some, ob_some, hg]
    show ob (findE .i64 k es 0) _ = _
    rw [h4]; rfl
theorem look_none (hg : h.get r = .map es clk) (m : MR es clk f) {k : Int} {z : Value} (hk : f k = none) : LOOK h z (.map (some r)) (.int .i64 k) true = some (.tuple ⟨[z, .bool false]⟩, h) := by
  rcases m.find k with ⟨_, _, h4⟩ | ⟨j, e, h1, h2, h3, h4⟩
  · unfold LOOK
    show ob (some r) (fun r => ob (some (IntKind.i64, k)) fun k => ob (mapB (h.get r)) _) = _
    rw [ob_some, ob_some, hg]
    show ob (findE .i64 k es 0) _ = _
    rw [h4]; rfl
  · rw [h1] at hk; cases hk
theorem mupd_ok (hg : h.get r = .map es clk) (m : MR es clk f) (k : Int) (v : Value) : ∃ es' clk', MUPD h (.map (some r)) (.int .i64 k) v = some (undef, h.set r (.map es' clk')) ∧ MR es' clk' (upd f k (some v)) := by
  rcases m.find k with ⟨_, hn, h4⟩ | ⟨j, e, h1, h2, h3, h4⟩
  · refine ⟨_, _, ?_, m.append hn v⟩
    unfold MUPD
    show ob (some r) (fun r => ob (some (IntKind.i64, k)) fun k => ob (mapB (h.get r)) _) = _
    rw [ob_some, ob_some, hg]
    show ob (findE .i64 k es 0) _ = _
    rw [h4]; rfl
  · refine ⟨_, _, ?_, m.modify h2 h3 v⟩
    unfold MUPD
    show ob (some r) (fun r => ob (some (IntKind.i64, k)) fun k => ob (mapB (h.get r)) _) = _
    rw [ob_some, ob_some, hg]
    show ob (findE .i64 k es 0) _ = _
    rw [h4]; rfl
theorem del_ok {t : TypeId} (ht : (mpT P t).isSome = true) (hg : h.get r = .map es clk) (m : MR es clk f) {k : Int} {v : Value} (hk : f k = some v) : ∃ es', DEL P h t (.map (some r)) (.int .i64 k) = some (undef, h.set r (.map es' clk)) ∧ MR es' clk (upd f k none) := by
  obtain ⟨z, hb⟩ := isSome_get ht
  unfold mpT at hb
  obtain ⟨d, h2, hb⟩ := ob_inv hb
  obtain ⟨e, h3, hb⟩ := ob_inv hb
  obtain ⟨fd, h4, hb⟩ := ob_inv hb
  obtain ⟨g1, hb⟩ := gd_inv hb
  have e0 : DEL P h t (.map (some r)) (.int .i64 k) = ob (findE .i64 k es 0) fun res => some (undef, match res with | some (i, _) => h.set r (.map (es.eraseIdx i) clk) | none => h) := by
    unfold DEL evDelete
    show ob (some r) (fun r => ob (some (IntKind.i64, k)) fun k => ob (P.underlying t) _) = _
    rw [ob_some, ob_some, h2, ob_some, h3, ob_some, h4, ob_some, g1, gd_true, hg]
    rfl
  rw [e0]
  rcases m.find k with ⟨hf, _, _⟩ | ⟨j, e, h1, h2, h3, h4⟩
  · rw [hf] at hk; cases hk
  · exact ⟨_, by rw [h4]; rfl, m.erase h2 h3⟩
theorem ent_ok (hg : h.get r = .map es clk) (m : MR es clk f) {k : Int} {v z : Value} (hk : f k = some v) : ∃ (b : Nat), ENTV h z (.map (some r)) (.int .i64 k) = some (.tuple ⟨[v, .int .i64 b]⟩, h.set r (.map es clk)) ∧
    ∀ (h' : Heap) (x : Value), h'.get r = .map es clk → ∃ es', ESTV h' (.map (some r)) (.int .i64 b) x = some (undef, h'.set r (.map es' clk)) ∧ MR es' clk (upd f k (some x)) := by
  rcases m.find k with ⟨h1, _, _⟩ | ⟨j, e, h1, h2, h3, h4⟩
  · rw [h1] at hk; cases hk
  · rw [h1] at hk
    cases hk
    refine ⟨e.born, ?_, fun h' x hg' => ⟨_, ?_, m.modify h2 h3 x⟩⟩
    · unfold ENTV
      show ob (some r) (fun r => ob (some (IntKind.i64, k)) fun k => ob (mapB (h.get r)) _) = _
      rw [ob_some, ob_some, hg]
      show ob (findE .i64 k es 0) _ = _
      rw [h4]
      show ob (es[j]?) _ = _
      rw [h2]; rfl
    · unfold ESTV
      show ob (some r) (fun r => ob (some (IntKind.i64, (e.born : Int))) fun b => ob (mapB (h'.get r)) _) = _
      rw [ob_some, ob_some, hg']
      show ob (findB (e.born : Int) es 0) _ = _
      rw [findB_spec es 0 j e m.bnd h2, Nat.zero_add]; rfl
end
end Go.Proofs.YtddgcakiceodgaaGreat.EV
