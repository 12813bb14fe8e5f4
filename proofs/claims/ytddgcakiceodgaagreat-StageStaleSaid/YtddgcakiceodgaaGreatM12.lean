/- Maps with whole numbers for keys: what is looked up, set, struck out. No condition. Contracts: core.of, Seed, Tag, Age, Form. No condition. Contracts: package seal, and the reference's seals. No condition. -/
import Derived.Test.YtddgcakiceodgaaGreatM9
import Derived.Test.YtddgcakiceodgaaGreatM11
import Derived.Test.YtddgcakiceodgaaGreatM10
namespace Go.Proofs.YtddgcakiceodgaaGreat.EV
open Go Go.Proofs
set_option linter.unusedVariables false
set_option linter.unusedSimpArgs false
noncomputable def ekey (e : MapEntry) : Int := match e.key with
  | .int _ n => n
  | _ => 0
structure MapOK (es : List MapEntry) (clk : Nat) : Prop where
  key : ∀ e ∈ es, e.key = .int .i64 (ekey e)
  nd : (es.map ekey).Nodup
  bnd : (es.map (·.born)).Nodup
  lt : ∀ e ∈ es, e.born < clk
/-- what the entries say -/
structure MR (es : List MapEntry) (clk : Nat) (f : Int → Option Value) : Prop extends MapOK es clk where
  says : ∀ k v, f k = some v ↔ ∃ e ∈ es, ekey e = k ∧ e.val = v
theorem findE_spec (k : Int) : ∀ (es : List MapEntry) (i : Nat), (∀ e ∈ es, e.key = .int .i64 (ekey e)) →
    ((∀ e ∈ es, ekey e ≠ k) ∧ findE .i64 k es i = some none) ∨ ∃ j e, es[j]? = some e ∧ ekey e = k ∧ findE .i64 k es i = some (some (i + j, e.val))
  | [], i, _ => .inl ⟨fun _ h => (by cases h), rfl⟩
  | e :: es, i, h => by
    have hk := h e (List.mem_cons_self ..)
    have e1 : findE .i64 k (e :: es) i = cnd (decide (k = ekey e)) (some (some (i, e.val))) (findE .i64 k es (Nat.succ i)) := by
      conv => lhs; unfold findE
      rw [hk]
      show cnd (decide (IntKind.i64 = IntKind.i64)) _ _ = _
      rw [decide_eq_true rfl]; rfl
    by_cases q : k = ekey e
    · refine .inr ⟨0, e, rfl, q.symm, ?_⟩
      rw [e1, decide_eq_true q]; rfl
    · rw [e1, decide_eq_false q, cnd_false]
      rcases findE_spec k es (Nat.succ i) (fun x hx => h x (List.mem_cons_of_mem _ hx)) with ⟨h1, h2⟩ | ⟨j, x, h1, h2, h3⟩
      · refine .inl ⟨fun x hx => ?_, h2⟩
        rcases List.mem_cons.1 hx with rfl | hx
        · exact fun e => q e.symm
        · exact h1 x hx
      · exact .inr ⟨j + 1, x, h1, h2, by rw [h3, Nat.succ_eq_add_one, Nat.add_assoc, Nat.add_comm 1 j]⟩
section
variable {es : List MapEntry} {clk : Nat} {f : Int → Option Value}
theorem key_at (m : MapOK es clk) {i j : Nat} {a b : MapEntry} (h1 : es[i]? = some a) (h2 : es[j]? = some b) (h : ekey a = ekey b) : i = j := by
  obtain ⟨l1, rfl⟩ := List.getElem?_eq_some_iff.1 h1
  obtain ⟨l2, rfl⟩ := List.getElem?_eq_some_iff.1 h2
  have hp := List.pairwise_iff_getElem.1 m.nd
  rcases Nat.lt_trichotomy i j with q | q | q
  · exact absurd (by rw [List.getElem_map, List.getElem_map]; exact h) (hp i j (by simpa using l1) (by simpa using l2) q)
  · exact q
  · exact absurd (by rw [List.getElem_map, List.getElem_map]; exact h.symm) (hp j i (by simpa using l2) (by simpa using l1) q)
theorem MR.find (m : MR es clk f) (k : Int) : (f k = none ∧ (∀ e ∈ es, ekey e ≠ k) ∧ findE .i64 k es 0 = some none) ∨ ∃ j e, f k = some e.val ∧ es[j]? = some e ∧ ekey e = k ∧ findE .i64 k es 0 = some (some (j, e.val)) := by
  rcases findE_spec k es 0 m.key with ⟨h1, h2⟩ | ⟨j, e, h1, h2, h3⟩
  · refine .inl ⟨?_, h1, h2⟩
    cases hf : f k with
    | none => rfl
    | some v =>
      obtain ⟨e, he, hk, _⟩ := (m.says k v).1 hf
      exact absurd hk (h1 e he)
  · rw [Nat.zero_add] at h3
    exact .inr ⟨j, e, (m.says k e.val).2 ⟨e, List.mem_of_getElem? h1, h2, rfl⟩, h1, h2, h3⟩
theorem MR.nil : MR [] 0 (fun _ => none) := ⟨⟨fun _ h => (by cases h), List.Pairwise.nil, List.Pairwise.nil, fun _ h => (by cases h)⟩, fun k v => ⟨fun h => (by cases h), fun ⟨e, h, _⟩ => (by cases h)⟩⟩
noncomputable def upd (f : Int → Option Value) (k : Int) (v : Option Value) (x : Int) : Option Value := if x = k then v else f x
theorem mod_mem {j : Nat} {e : MapEntry} (h : es[j]? = some e) (g : MapEntry → MapEntry) (x : MapEntry) : x ∈ es.modify j g ↔ x = g e ∨ ∃ i, i ≠ j ∧ es[i]? = some x := by
  constructor
  · intro hx
    obtain ⟨i, hi⟩ := List.getElem?_of_mem hx
    rw [List.getElem?_modify] at hi
    by_cases q : j = i
    · subst q
      rw [h] at hi
      simp at hi
      exact .inl hi.symm
    · simp [q] at hi
      exact .inr ⟨i, fun e => q e.symm, hi⟩
  · rintro (rfl | ⟨i, q, hi⟩)
    · apply List.mem_of_getElem? (i := j)
      rw [List.getElem?_modify, h]; simp
    · apply List.mem_of_getElem? (i := i)
      have q' : ¬ j = i := fun e => q e.symm
      rw [List.getElem?_modify, hi]; simp [q']
theorem MR.modify (m : MR es clk f) {j : Nat} {e : MapEntry} {k : Int} (h : es[j]? = some e) (hk : ekey e = k) (v : Value) : MR (es.modify j fun e => { e with val := v }) clk (upd f k (some v)) := by
  have hm := mod_mem h (fun e => { e with val := v })
  have hke : ∀ (e : MapEntry) (v : Value), ekey { e with val := v } = ekey e := fun _ _ => rfl
  have kk : (es.modify j fun e => { e with val := v }).map ekey = es.map ekey := by
    apply List.ext_getElem?
    intro i
    rw [List.getElem?_map, List.getElem?_map, List.getElem?_modify]
    cases es[i]? with
    | none => rfl
    | some x =>
      by_cases q : j = i
      · simp [q]; rfl
      · simp [q]
  have bb : (es.modify j fun e => { e with val := v }).map (·.born) = es.map (·.born) := by
    apply List.ext_getElem?
    intro i
    rw [List.getElem?_map, List.getElem?_map, List.getElem?_modify]
    cases es[i]? with
    | none => rfl
    | some x =>
      by_cases q : j = i
      · simp [q]
      · simp [q]
  refine ⟨⟨fun x hx => ?_, by rw [kk]; exact m.nd, by rw [bb]; exact m.bnd, fun x hx => ?_⟩, fun k' v' => ?_⟩
  · rcases (hm x).1 hx with rfl | ⟨i, _, hi⟩
    · exact m.key e (List.mem_of_getElem? h)
    · exact m.key x (List.mem_of_getElem? hi)
  · rcases (hm x).1 hx with rfl | ⟨i, _, hi⟩
    · exact m.lt e (List.mem_of_getElem? h)
    · exact m.lt x (List.mem_of_getElem? hi)
  · unfold upd
    by_cases q : k' = k
    · rw [if_pos q]
      subst q
      constructor
      · intro e'
        cases e'
        exact ⟨_, (hm _).2 (.inl rfl), hk, rfl⟩
      · rintro ⟨x, hx, h1, h2⟩
        rcases (hm x).1 hx with rfl | ⟨i, hi, hi'⟩
        · rw [← h2]
        · exact absurd (key_at m.toMapOK hi' h (h1.trans hk.symm)) hi
    · rw [if_neg q, m.says]
      constructor
      · rintro ⟨x, hx, h1, h2⟩
        obtain ⟨i, hi⟩ := List.getElem?_of_mem hx
        refine ⟨x, (hm x).2 (.inr ⟨i, fun e' => ?_, hi⟩), h1, h2⟩
        subst e'
        rw [h] at hi
        cases hi
        exact q (h1.symm.trans hk)
      · rintro ⟨x, hx, h1, h2⟩
        rcases (hm x).1 hx with rfl | ⟨i, _, hi'⟩
        · exact absurd (h1.symm.trans hk) q
        · exact ⟨x, List.mem_of_getElem? hi', h1, h2⟩
theorem MR.append (m : MR es clk f) {k : Int} (h : ∀ e ∈ es, ekey e ≠ k) (v : Value) : MR (es ++ [{ key := .int .i64 k, val := v, born := clk }]) (clk + 1) (upd f k (some v)) := by
  refine ⟨⟨fun x hx => ?_, ?_, ?_, fun x hx => ?_⟩, fun k' v' => ?_⟩
  · rcases List.mem_append.1 hx with q | q
    · exact m.key x q
    · rw [List.mem_singleton.1 q]; rfl
  · rw [List.map_append, List.nodup_append]
    refine ⟨m.nd, by simp, fun a ha b hb e => ?_⟩
    obtain ⟨x, hx, rfl⟩ := List.mem_map.1 ha
    simp only [List.map_cons, List.map_nil, List.mem_singleton] at hb
    exact h x hx (e.trans hb)
  · rw [List.map_append, List.nodup_append]
    refine ⟨m.bnd, by simp, fun a ha b hb e => ?_⟩
    obtain ⟨x, hx, rfl⟩ := List.mem_map.1 ha
    simp only [List.map_cons, List.map_nil, List.mem_singleton] at hb
    have := m.lt x hx
    omega
  · rcases List.mem_append.1 hx with q | q
    · exact Nat.lt_succ_of_lt (m.lt x q)
    · rw [List.mem_singleton.1 q]; exact Nat.lt_succ_self _
  · unfold upd
    by_cases q : k' = k
    · rw [if_pos q]
      subst q
      constructor
      · intro e'
        cases e'
        exact ⟨_, List.mem_append.2 (.inr (List.mem_singleton.2 rfl)), rfl, rfl⟩
      · rintro ⟨x, hx, h1, h2⟩
        rcases List.mem_append.1 hx with p | p
        · exact absurd h1 (h x p)
        · rw [List.mem_singleton.1 p] at h2; rw [← h2]
    · rw [if_neg q, m.says]
      constructor
      · rintro ⟨x, hx, h1, h2⟩
        exact ⟨x, List.mem_append.2 (.inl hx), h1, h2⟩
      · rintro ⟨x, hx, h1, h2⟩
        rcases List.mem_append.1 hx with p | p
        · exact ⟨x, p, h1, h2⟩
        · rw [List.mem_singleton.1 p] at h1
          exact absurd h1.symm q
theorem MR.erase (m : MR es clk f) {j : Nat} {e : MapEntry} {k : Int} (h : es[j]? = some e) (hk : ekey e = k) : MR (es.eraseIdx j) clk (upd f k none) := by
  have hs := List.eraseIdx_sublist es j
  refine ⟨⟨fun x hx => m.key x (hs.subset hx), (hs.map ekey).nodup m.nd, (hs.map (·.born)).nodup m.bnd, fun x hx => m.lt x (hs.subset hx)⟩, fun k' v' => ?_⟩
  have hme : ∀ x, x ∈ es.eraseIdx j ↔ ∃ i, i ≠ j ∧ es[i]? = some x := fun x => List.mem_eraseIdx_iff_getElem?
  unfold upd
  by_cases q : k' = k
  · rw [if_pos q]
    subst q
    constructor
    · intro e'; cases e'
    · rintro ⟨x, hx, h1, _⟩
      obtain ⟨i, hi, hi'⟩ := (hme x).1 hx
      exact absurd (key_at m.toMapOK hi' h (h1.trans hk.symm)) hi
  · rw [if_neg q, m.says]
    constructor
    · rintro ⟨x, hx, h1, h2⟩
      obtain ⟨i, hi⟩ := List.getElem?_of_mem hx
      refine ⟨x, (hme x).2 ⟨i, fun e' => ?_, hi⟩, h1, h2⟩
      subst e'
      rw [h] at hi
      cases hi
      exact q (h1.symm.trans hk)
    · rintro ⟨x, hx, h1, h2⟩
      exact ⟨x, hs.subset hx, h1, h2⟩
theorem findB_spec : ∀ (es : List MapEntry) (i j : Nat) (e : MapEntry), (es.map (·.born)).Nodup → es[j]? = some e → findB (e.born : Int) es i = some (i + j)
  | [], i, j, e, _, h => by simp at h
  | x :: es, i, j, e, hn, h => by
    unfold findB
    rw [List.map_cons, List.nodup_cons] at hn
    cases j with
    | zero =>
      simp only [List.getElem?_cons_zero, Option.some.injEq] at h
      subst h
      rw [decide_eq_true rfl]; rfl
    | succ j =>
      simp only [List.getElem?_cons_succ] at h
      have : ¬ ((x.born : Int) = (e.born : Int)) := fun q => hn.1 (List.mem_map.2 ⟨e, List.mem_of_getElem? h, by omega⟩)
      rw [decide_eq_false this, cnd_false, findB_spec es (Nat.succ i) j e hn.2 h, Nat.succ_eq_add_one, Nat.add_assoc, Nat.add_comm 1 j]
end
/-! ## the operations -/
section
variable {P : Program} {O : Orc} {tm : Fr} {h : Heap} {ms : List Nat}
noncomputable def ENTV (h : Heap) (z : Value) (m k : Value) : VH := ob (asMapV m) fun r => ob (asIntV k) fun k => ob (mapB (h.get r)) fun es =>
    ob (findE k.1 k.2 es.1 0) fun res => match res with
      | some (i, v) => ob (es.1[i]?) fun e => some (.tuple #[v, goInt e.born], h.set r (.map es.1 es.2))
      | none => some (.tuple #[z, goInt es.2], h.set r (.map (es.1 ++ [{ key := .int k.1 k.2, val := z, born := es.2 }]) (es.2 + 1)))
noncomputable def ESTV (h : Heap) (m s v : Value) : VH := ob (asMapV m) fun r => ob (asIntV s) fun b => ob (mapB (h.get r)) fun es =>
    ob (findB b.2 es.1 0) fun i => some (undef, h.set r (.map (es.1.modify i fun e => { e with val := v }) es.2))
theorem ent_s (t : TypeId) (m k : Operand) (hs : (mpT P t).isSome = true) : ROP P O (.mapEntry t m k) ⟨tm, h, ms⟩ = ob (mpT P t) fun z => ob (opnd tm m) fun m => ob (opnd tm k) fun k => ENTV h z m k := by
  obtain ⟨z, hb⟩ := isSome_get hs
  rw [hb]
  unfold mpT at hb
  obtain ⟨d, h2, hb⟩ := ob_inv hb
  obtain ⟨e, h3, hb⟩ := ob_inv hb
  obtain ⟨f, h4, hb⟩ := ob_inv hb
  obtain ⟨g1, hb⟩ := gd_inv hb
  obtain ⟨v, h1, hb⟩ := ob_inv hb
  cases hb
  have e0 : ROP P O (.mapEntry t m k) ⟨tm, h, ms⟩ = evMapEntry P tm h t m k := by unfold ROP; rfl
  rw [e0]
  unfold evMapEntry ENTV
  simp only [h2, ob_some, h3, h4, g1, gd_true, h1]
  cases opnd tm m with
  | none => rfl
  | some m =>
    simp only [ob_some]
    cases asMapV m with
    | none => simp only [ob_none, ob_nn]
    | some r => rfl
theorem est_s (t : TypeId) (m s x : Operand) : ROP P O (.entryStore t m s x) ⟨tm, h, ms⟩ = ob (opnd tm m) fun m => ob (opnd tm s) fun s => ob (opnd tm x) fun v => ESTV h m s v := by
  have e0 : ROP P O (.entryStore t m s x) ⟨tm, h, ms⟩ = evEntryStore tm h m s x := by unfold ROP; rfl
  rw [e0]
  unfold evEntryStore ESTV
  cases opnd tm m with
  | none => rfl
  | some m =>
    simp only [ob_some]
    cases asMapV m with
    | none => simp only [ob_none, ob_nn]
    | some r =>
      simp only [ob_some]
      cases opnd tm s with
      | none => rfl
      | some s =>
        simp only [ob_some]
        cases asIntV s with
        | none => simp only [ob_none, ob_nn]
        | some b =>
          simp only [ob_some]
variable {r : Nat} {es : List MapEntry} {clk : Nat} {f : Int → Option Value}
theorem look_some (hg : h.get r = .map es clk) (m : MR es clk f) {k : Int} {v z : Value} (hk : f k = some v) : LOOK h z (.map (some r)) (.int .i64 k) true = some (.tuple ⟨[v, .bool true]⟩, h) := by
  rcases m.find k with ⟨h1, _, _⟩ | ⟨j, e, h1, h2, h3, h4⟩
  · rw [h1] at hk; cases hk
  · rw [h1] at hk
    cases hk
    unfold LOOK
    show ob (some r) (fun r => ob (some (IntKind.i64, k)) fun k => ob (mapB (h.get r)) _) = _
    rw [ob_some, ob_some, hg]
    show ob (findE .i64 k es 0) _ = _
    rw [h4]; rfl
theorem look_none (hg : h.get r = .map es clk) (m : MR es clk f) {k : Int} {z : Value} (hk : f k = none) : LOOK h z (.map (some r)) (.int .i64 k) true = some (.tuple ⟨[z, .bool false]⟩, h) := by
  rcases m.find k with ⟨_, _, h4⟩ | ⟨j, e, h1, h2, h3, h4⟩
  · unfold LOOK
    show ob (some r) (fun r => ob (some (IntKind.i64, k)) fun k => ob (mapB (h.get r)) _) = _
    rw [ob_some, ob_some, hg]
    show ob (findE .i64 k es 0) _ = _
    rw [h4]; rfl
  · rw [h1] at hk; cases hk
theorem mupd_ok (hg : h.get r = .map es clk) (m : MR es clk f) (k : Int) (v : Value) : ∃ es' clk', MUPD h (.map (some r)) (.int .i64 k) v = some (undef, h.set r (.map es' clk')) ∧ MR es' clk' (upd f k (some v)) := by
  rcases m.find k with ⟨_, hn, h4⟩ | ⟨j, e, h1, h2, h3, h4⟩
  · refine ⟨_, _, ?_, m.append hn v⟩
    unfold MUPD
    show ob (some r) (fun r => ob (some (IntKind.i64, k)) fun k => ob (mapB (h.get r)) _) = _
    rw [ob_some, ob_some, hg]
    show ob (findE .i64 k es 0) _ = _
    rw [h4]; rfl
  · refine ⟨_, _, ?_, m.modify h2 h3 v⟩
    unfold MUPD
    show ob (some r) (fun r => ob (some (IntKind.i64, k)) fun k => ob (mapB (h.get r)) _) = _
    rw [ob_some, ob_some, hg]
    show ob (findE .i64 k es 0) _ = _
    rw [h4]; rfl
theorem del_ok {t : TypeId} (ht : (mpT P t).isSome = true) (hg : h.get r = .map es clk) (m : MR es clk f) {k : Int} {v : Value} (hk : f k = some v) : ∃ es', DEL P h t (.map (some r)) (.int .i64 k) = some (undef, h.set r (.map es' clk)) ∧ MR es' clk (upd f k none) := by
  obtain ⟨z, hb⟩ := isSome_get ht
  unfold mpT at hb
  obtain ⟨d, h2, hb⟩ := ob_inv hb
  obtain ⟨e, h3, hb⟩ := ob_inv hb
  obtain ⟨fd, h4, hb⟩ := ob_inv hb
  obtain ⟨g1, hb⟩ := gd_inv hb
  have e0 : DEL P h t (.map (some r)) (.int .i64 k) = ob (findE .i64 k es 0) fun res => some (undef, match res with | some (i, _) => h.set r (.map (es.eraseIdx i) clk) | none => h) := by
    unfold DEL evDelete
    show ob (some r) (fun r => ob (some (IntKind.i64, k)) fun k => ob (P.underlying t) _) = _
    rw [ob_some, ob_some, h2, ob_some, h3, ob_some, h4, ob_some, g1, gd_true, hg]
    rfl
  rw [e0]
  rcases m.find k with ⟨hf, _, _⟩ | ⟨j, e, h1, h2, h3, h4⟩
  · rw [hf] at hk; cases hk
  · exact ⟨_, by rw [h4]; rfl, m.erase h2 h3⟩
theorem ent_ok (hg : h.get r = .map es clk) (m : MR es clk f) {k : Int} {v z : Value} (hk : f k = some v) : ∃ (b : Nat), ENTV h z (.map (some r)) (.int .i64 k) = some (.tuple ⟨[v, .int .i64 b]⟩, h.set r (.map es clk)) ∧
    ∀ (h' : Heap) (x : Value), h'.get r = .map es clk → ∃ es', ESTV h' (.map (some r)) (.int .i64 b) x = some (undef, h'.set r (.map es' clk)) ∧ MR es' clk (upd f k (some x)) := by
  rcases m.find k with ⟨h1, _, _⟩ | ⟨j, e, h1, h2, h3, h4⟩
  · rw [h1] at hk; cases hk
  · rw [h1] at hk
    cases hk
    refine ⟨e.born, ?_, fun h' x hg' => ⟨_, ?_, m.modify h2 h3 x⟩⟩
    · unfold ENTV
      show ob (some r) (fun r => ob (some (IntKind.i64, k)) fun k => ob (mapB (h.get r)) _) = _
      rw [ob_some, ob_some, hg]
      show ob (findE .i64 k es 0) _ = _
      rw [h4]
      show ob (es[j]?) _ = _
      rw [h2]; rfl
    · unfold ESTV
      show ob (some r) (fun r => ob (some (IntKind.i64, (e.born : Int))) fun b => ob (mapB (h'.get r)) _) = _
      rw [ob_some, ob_some, hg']
      show ob (findB (e.born : Int) es 0) _ = _
      rw [findB_spec es 0 j e m.bnd h2, Nat.zero_add]; rfl
end
end Go.Proofs.YtddgcakiceodgaaGreat.EV
namespace Go.Proofs.YtddgcakiceodgaaGreat.EV
open Go Go.Proofs
set_option linter.unusedVariables false
set_option linter.unusedSimpArgs false
set_option maxRecDepth 100000
set_option pp.deepTerms false
set_option pp.deepTerms.threshold 20
/-- a map of whole numbers -/
noncomputable def NMap (h : Heap) (mb : Nat) : Prop := ∃ es clk f, h.get mb = .map es clk ∧ MR es clk f ∧ ∀ k v, f k = some v → ∃ n, v = .int .i64 n
/-- a core -/
structure CQ (h : Heap) (cb qb lb mb : Nat) (v : Value) (tag base cur : Int) (l : List Pnt) (idle age : Int) : Prop where
  lt : cb < h.next
  gb : h.get cb = .cells [ptr qb 0, .map (some mb), .int .i64 idle, .int .i64 age] 0
  ml : mb < h.next
  mp : NMap h mb
  pq : PQ h qb lb v tag base cur l
theorem NMap.mod {h h' : Heap} {mb : Nat} {S : Nat → Prop} (m : NMap h mb) (hl : mb < h.next) (x : Mod S h h') (hs : ¬ S mb) : NMap h' mb := by
  obtain ⟨es, clk, f, h1, h2, h3⟩ := m
  exact ⟨es, clk, f, (x.old mb hl hs).trans h1, h2, h3⟩
theorem CQ.mod {S : Nat → Prop} {h h' : Heap} {cb qb lb mb : Nat} {v : Value} {tag base cur : Int} {l : List Pnt} {idle age : Int} (q : CQ h cb qb lb mb v tag base cur l idle age) (x : Mod S h h') (h1 : ¬ S cb) (h2 : ¬ S qb) (h3 : ¬ S lb) (h4 : ¬ S mb) (h5 : ∀ i, blkOf v i → ¬ S i) : CQ h' cb qb lb mb v tag base cur l idle age :=
  ⟨Nat.lt_of_lt_of_le q.lt x.le, (x.old cb q.lt h1).trans q.gb, Nat.lt_of_lt_of_le q.ml x.le, q.mp.mod q.ml x h4, q.pq.mod x h2 h3 h5⟩
theorem CQ.ext {h h' : Heap} {cb qb lb mb : Nat} {v : Value} {tag base cur : Int} {l : List Pnt} {idle age : Int} (q : CQ h cb qb lb mb v tag base cur l idle age) (x : Ext h h') : CQ h' cb qb lb mb v tag base cur l idle age :=
  q.mod (x.mod fun _ => False) (fun q => q) (fun q => q) (fun q => q) (fun q => q) fun _ _ q => q
theorem CQ.mne {h : Heap} {cb qb lb mb : Nat} {v : Value} {tag base cur : Int} {l : List Pnt} {idle age : Int} (q : CQ h cb qb lb mb v tag base cur l idle age) {b : Nat} {cs : List Value} {e : Nat} (hb : h.get b = .cells cs e) : b ≠ mb := fun k => by
  obtain ⟨es, clk, f, h1, _⟩ := q.mp
  rw [← k, hb] at h1
  cases h1
theorem coreOf_ev (p : Option Addr) (e : Int) (h : Heap) : WPo (EF Tryz.prog O0 54 [.pointer p, .int .i64 e] h) fun q => Ext h q.2 ∧ if e = 0 then ∃ cb mb, q.1 = .tuple ⟨[ptr cb 0, .int .i64 0]⟩ ∧ h.next ≤ cb ∧ h.next ≤ mb ∧ cb < q.2.next ∧ mb < q.2.next ∧ q.2.get cb = .cells [.pointer p, .map (some mb), .int .i64 0, .int .i64 0] 0 ∧ NMap q.2 mb else q.1 = .tuple ⟨[nilP, .int .i64 e]⟩ := by
  rw [EF_body (O := O0) (by kernel_rfl) Tryz.func54 rfl (rs := [.tmp 4, .tmp 5]) rfl (bad := []) (by kernel_rfl) _ _ (m := 13) rfl]
  simp (disch := first|exact dis|fail) only [go_sem, Int.reduceToNat, Nat.reduceMul, Nat.reduceAdd, Nat.reduceSub, ↓EU_region, ↓EU_draw]
  ((repeat refine WPo_ob ?_); (first | refine WPo_cond (fun b1 => ?_) (fun b1 => ?_) | refine WPo_gard (fun b1 => ?_) (fun b1 => ?_) | refine WPo_gardT (fun b1 => ?_) (fun b1 => ?_)) <;> (try simp only [Bool.not_eq_true', Bool.not_eq_false'] at b1))
  · simp only [decide_eq_false_iff_not] at b1
    simp (disch := first|exact dis|fail) only [go_sem, Int.reduceToNat, Nat.reduceMul, Nat.reduceAdd, Nat.reduceSub, ↓EU_region, ↓EU_draw, if_neg b1]
    exact ⟨by repeat (first | exact Ext.refl _ | assumption | refine Ext.push ?_ _ | refine Ext.set ?_ _ _ (by first | omega | (simp only [next_push, next_set]; omega))), rfl⟩
  · simp only [decide_eq_true_eq] at b1
    subst b1
    simp (disch := first|exact dis|fail) only [go_sem, Int.reduceToNat, Nat.reduceMul, Nat.reduceAdd, Nat.reduceSub, ↓EU_region, ↓EU_draw, if_true]
    exact ⟨by repeat (first | exact Ext.refl _ | assumption | refine Ext.push ?_ _ | refine Ext.set ?_ _ _ (by first | omega | (simp only [next_push, next_set]; omega))), h.next + 1, h.next, rfl, Nat.le_succ _, Nat.le_refl _, by omega, by omega, by simp (disch := first|exact dis|fail) only [go_sem, Int.reduceToNat, Nat.reduceMul, Nat.reduceAdd, Nat.reduceSub, ↓EU_region, ↓EU_draw], ⟨[], 0, _, by simp (disch := first|exact dis|fail) only [go_sem, Int.reduceToNat, Nat.reduceMul, Nat.reduceAdd, Nat.reduceSub, ↓EU_region, ↓EU_draw], MR.nil, fun k v e => (by cases e)⟩⟩
theorem coreSeed_ev (tag base cur : Int) (l : List Item) (s : Value) (h : Heap) (hs : SL itemE 3 h s l) (hl : l.length < 900000) :
    WPo (EF Tryz.prog O0 32 [.int .i64 tag, formV cur s, .int .i64 base] h) fun q => Ext h q.2 ∧ if tgood tag && (bgood base && goodF cur l) then ∃ cb qb lb mb v, q.1 = .tuple ⟨[ptr cb 0, .int .i64 0]⟩ ∧ CQ q.2 cb qb lb mb v tag base cur (l.map (ptI base)) 0 0 ∧ h.next ≤ cb ∧ h.next ≤ qb ∧ h.next ≤ lb ∧ h.next ≤ mb ∧ Fresh h.next v else q.1 = .tuple ⟨[nilP, .int .i64 1]⟩ := by
  have hS := polSeed_ev tag base cur l s (h.push (.cells [.int .i64 cur, s] 0)) (hs.ext ((Ext.refl h).push _)) hl
  unfold formV at *
  rw [EF_body (O := O0) (by kernel_rfl) Tryz.func32 rfl (rs := [.tmp 6, .tmp 7]) rfl (bad := []) (by kernel_rfl) _ _ (m := 17) rfl]
  simp (disch := first|exact dis|fail) only [go_sem, Int.reduceToNat, Nat.reduceMul, Nat.reduceAdd, Nat.reduceSub, ↓EU_region, ↓EU_draw]
  repeat refine WPo_ob ?_
  refine hS.mono ?_
  rintro ⟨w, h1⟩ ⟨x1, k⟩
  have xh : Ext h h1 := ((Ext.refl h).push _).trans x1
  cases hg : (tgood tag && (bgood base && goodF cur l)) with
  | false =>
    rw [hg, if_neg (by decide)] at k
    simp only at k
    subst k
    unfold nilP
    simp (disch := first|exact dis|fail) only [go_sem, Int.reduceToNat, Nat.reduceMul, Nat.reduceAdd, Nat.reduceSub, ↓EU_region, ↓EU_draw]
    repeat refine WPo_ob ?_
    refine (coreOf_ev none 1 h1).mono ?_
    rintro ⟨w, h2⟩ ⟨x2, k⟩
    rw [if_neg (by decide)] at k
    simp only at k
    subst k
    simp (disch := first|exact dis|fail) only [go_sem, Int.reduceToNat, Nat.reduceMul, Nat.reduceAdd, Nat.reduceSub, ↓EU_region, ↓EU_draw, if_false, Bool.false_eq_true]
    exact ⟨xh.trans x2, rfl⟩
  | true =>
    rw [hg, if_pos rfl] at k
    obtain ⟨qb, lb, v, e, pq, hqb, hlb, fv⟩ := k
    simp only at e pq
    subst e
    simp only [next_push] at hqb hlb fv
    simp (disch := first|exact dis|fail) only [go_sem, Int.reduceToNat, Nat.reduceMul, Nat.reduceAdd, Nat.reduceSub, ↓EU_region, ↓EU_draw]
    repeat refine WPo_ob ?_
    refine (coreOf_ev (some ⟨qb, 0, none⟩) 0 h1).mono ?_
    rintro ⟨w, h2⟩ ⟨x2, k⟩
    rw [if_pos rfl] at k
    obtain ⟨cb, mb, e, hb, hb2, hb3, hb4, hb5, hb6⟩ := k
    simp only at e hb3 hb4 hb5 hb6
    subst e
    have hx := xh.le
    simp (disch := first|exact dis|fail) only [go_sem, Int.reduceToNat, Nat.reduceMul, Nat.reduceAdd, Nat.reduceSub, ↓EU_region, ↓EU_draw, if_true]
    exact ⟨xh.trans x2, cb, qb, lb, mb, v, rfl, ⟨hb3, hb5, hb4, hb6, pq.ext x2⟩, by omega, by omega, by omega, by omega, fv.mono (by omega)⟩
section
variable {cb qb lb mb : Nat} {v : Value} {tag base cur : Int} {l : List Pnt} {idle age : Int} {h : Heap}
theorem coreTag_ev (q : CQ h cb qb lb mb v tag base cur l idle age) : EF Tryz.prog O0 11 [ptr cb 0] h = some (.int .i64 tag, h) := by
  have : WPo (EF Tryz.prog O0 11 [ptr cb 0] h) fun q => q = (.int .i64 tag, h) := by
    have h1 := q.gb
    have h2 := polTag_ev qb lb v tag base cur l h q.pq
    rw [EF_body (O := O0) (by kernel_rfl) Tryz.func11 rfl (rs := [.tmp 2]) rfl (bad := []) (by kernel_rfl) _ _ (m := 8) rfl]
    simp (disch := first|exact dis|fail) only [go_sem, Int.reduceToNat, Nat.reduceMul, Nat.reduceAdd, Nat.reduceSub, ↓EU_region, ↓EU_draw, h1, h2]
  obtain ⟨q, e, rfl⟩ := this
  exact e
theorem coreAge_ev (q : CQ h cb qb lb mb v tag base cur l idle age) : EF Tryz.prog O0 60 [ptr cb 0] h = some (.int .i64 age, h) := by
  have : WPo (EF Tryz.prog O0 60 [ptr cb 0] h) fun q => q = (.int .i64 age, h) := by
    have h1 := q.gb
    rw [EF_body (O := O0) (by kernel_rfl) Tryz.func60 rfl (rs := [.tmp 2]) rfl (bad := []) (by kernel_rfl) _ _ (m := 7) rfl]
    simp (disch := first|exact dis|fail) only [go_sem, Int.reduceToNat, Nat.reduceMul, Nat.reduceAdd, Nat.reduceSub, ↓EU_region, ↓EU_draw, h1]
  obtain ⟨q, e, rfl⟩ := this
  exact e
theorem coreForm_ev (q : CQ h cb qb lb mb v tag base cur l idle age) (hl : l.length < 900000) (hw : Near base l) : WPo (EF Tryz.prog O0 13 [ptr cb 0] h) fun q => ∃ v, q.1 = formV cur v ∧ OW itemE 3 q.2 v (l.map (itP base)) ∧ Fresh h.next v ∧ Ext h q.2 := by
  have h1 := q.gb
  have h2 := q.pq.gb
  have l1 := q.lt
  have l2 := q.pq.lt
  have hF := formI_ev tag base cur l v lb (h.push (.cells [.int .i64 0, .slice none 0 1] 0)) q.pq.tg (q.pq.lq.ext ((Ext.refl h).push _)) hl hw
  rw [EF_body (O := O0) (by kernel_rfl) Tryz.func13 rfl (rs := [.cell 2 24]) rfl (bad := []) (by kernel_rfl) _ _ (m := 11) rfl]
  simp (disch := first|exact dis|fail) only [go_sem, Int.reduceToNat, Nat.reduceMul, Nat.reduceAdd, Nat.reduceSub, ↓EU_region, ↓EU_draw, h1, h2]
  repeat refine WPo_ob ?_
  refine hF.mono ?_
  rintro ⟨w, h1⟩ ⟨u, e, ou, fu, x1⟩
  simp only at e ou x1
  subst e
  unfold formV
  have hn1 := x1.le
  rw [next_push] at hn1
  have hc1 : h1.get h.next = .cells [.int .i64 0, .slice none 0 1] 0 := by rw [x1.old _ (by rw [next_push]; omega)]; exact get_push_new _ _
  obtain ⟨au, ku, hu⟩ := ou.val
  subst hu
  simp (disch := first|exact dis|fail) only [go_sem, Int.reduceToNat, Nat.reduceMul, Nat.reduceAdd, Nat.reduceSub, ↓EU_region, ↓EU_draw, hc1]
  refine ⟨_, rfl, ou.mod (Mod.set (S := fun j => j = h.next) (Mod.refl _ _) _ _ (fun _ => rfl)) (fun j hj q => by have := fu j hj; rw [next_push] at this; omega), fu.mono (by rw [next_push]; omega), (((Ext.refl h).push _).trans x1).set _ _ (by omega)⟩
end
end Go.Proofs.YtddgcakiceodgaaGreat.EV
namespace Go.Proofs.YtddgcakiceodgaaGreat.EV
open Go Go.Proofs
set_option linter.unusedVariables false
set_option linter.unusedSimpArgs false
set_option maxRecDepth 100000
set_option pp.deepTerms false
set_option pp.deepTerms.threshold 20

/-- one bit -/
noncomputable def stepN (c : Nat) : Nat := if c % 2 = 1 then (c >>> 1) ^^^ 2197175160 else c >>> 1
noncomputable def iterN : Nat → Nat → Nat
  | 0, c => c
  | n + 1, c => iterN n (stepN c)
noncomputable def byteN (c : Nat) (b : UInt8) : Nat := iterN 8 (c ^^^ b.toNat)
noncomputable def foldN (c : Nat) (l : List UInt8) : Nat := l.foldl byteN c
noncomputable def crcN (l : List UInt8) : Nat := 4294967295 ^^^ foldN 4294967295 l
theorem shr1_lt {c n : Nat} (h : c < n) : c >>> 1 < n := by
  rw [Nat.shiftRight_eq_div_pow]; omega
theorem xor_lt32 {a b : Nat} (h : a < 4294967296) (k : b < 4294967296) : a ^^^ b < 4294967296 := Nat.xor_lt_two_pow (n := 32) h k
theorem stepN_lt {c : Nat} (h : c < 4294967296) : stepN c < 4294967296 := by
  unfold stepN
  split
  · exact xor_lt32 (shr1_lt h) (by decide)
  · exact shr1_lt h
theorem iterN_lt : ∀ (n c : Nat), c < 4294967296 → iterN n c < 4294967296
  | 0, c, h => h
  | n + 1, c, h => iterN_lt n _ (stepN_lt h)
theorem byteN_lt {c : Nat} (b : UInt8) (h : c < 4294967296) : byteN c b < 4294967296 := iterN_lt 8 _ (xor_lt32 h (by have := b.toNat_lt; omega))
theorem foldN_lt : ∀ (l : List UInt8) (c : Nat), c < 4294967296 → foldN c l < 4294967296
  | [], c, h => h
  | b :: l, c, h => foldN_lt l _ (byteN_lt b h)
theorem crcN_lt (l : List UInt8) : crcN l < 4294967296 := xor_lt32 (by decide) (foldN_lt l _ (by decide))
theorem iterN_snoc : ∀ (n c : Nat), iterN (n + 1) c = stepN (iterN n c)
  | 0, c => rfl
  | n + 1, c => iterN_snoc n (stepN c)
/-- the bit, as the code has it -/
theorem step_code {c : Nat} (h : c < 4294967296) : ∃ m : Nat, wrapF .u32 (0 - ((c &&& 1 : Nat) : Int)) = (m : Int) ∧ m < 4294967296 ∧ (c >>> 1) ^^^ (2197175160 &&& m) = stepN c := by
  unfold stepN
  rw [Nat.and_one_is_mod]
  rcases Nat.mod_two_eq_zero_or_one c with q | q
  · rw [q, if_neg (by decide)]
    exact ⟨0, rfl, by decide, by rw [Nat.and_zero, Nat.xor_zero]⟩
  · rw [q, if_pos rfl]
    exact ⟨4294967295, rfl, by decide, rfl⟩
theorem of_ev (l : List UInt8) (s : Value) (h : Heap) (hs : SL byteE 1 h s l) (hl : l.length < 900000) :
    Pu (EF Tryz.prog O0 89 [s] h) h (.int .u32 (crcN l : Nat)) := by
  unfold Pu
  rw [EF_body (O := O0) (by kernel_rfl) Tryz.func89 rfl (rs := [.tmp 2]) rfl (bad := []) (by kernel_rfl) _ _ (m := 29) rfl]
  obtain ⟨a, c, hv⟩ := hs.val
  subst hv
  simp (disch := first|exact dis|fail) only [go_sem, Int.reduceToNat, Nat.reduceMul, Nat.reduceAdd, Nat.reduceSub, ↓EU_region, ↓EU_draw]
  repeat refine WPo_ob ?_
  refine (LP_rule (fun m st => ∃ i tm, st = ⟨tm, h, []⟩ ∧ m = l.length - i ∧ i ≤ l.length ∧ Fr.get tm 6 = .slice a l.length c ∧ Fr.get tm 7 = .int .i64 l.length ∧ Fr.get tm 8 = .int .i64 i ∧ Fr.get tm 3 = .int .u32 (foldN 4294967295 (l.take i) : Nat))
    (fun q => ∃ tm, q.2 = ⟨tm, h, []⟩ ∧ q.1 = .exit 0 ∧ Fr.get tm 3 = .int .u32 (foldN 4294967295 l : Nat)) ?_ l.length _ _ ?_ ?_).mono ?_
  · rintro m _ ⟨i, tm, rfl, rfl, hi, g6, g7, g8, g3⟩
    simp (disch := first|exact dis|fail) only [go_sem, Int.reduceToNat, Nat.reduceMul, Nat.reduceAdd, Nat.reduceSub, ↓EU_region, ↓EU_draw, g6, g7, g8, g3]
    ((repeat refine WPo_ob ?_); (first | refine WPo_cond (fun b1 => ?_) (fun b1 => ?_) | refine WPo_gard (fun b1 => ?_) (fun b1 => ?_) | refine WPo_gardT (fun b1 => ?_) (fun b1 => ?_)) <;> (try simp only [Bool.not_eq_true', Bool.not_eq_false'] at b1))
    · simp only [decide_eq_true_eq] at b1
      have hi' : i < l.length := by omega
      obtain ⟨x, hx⟩ : ∃ x, l[i]? = some x := ⟨_, List.getElem?_eq_getElem hi'⟩
      obtain ⟨b, o, c', e, hb', _, hr⟩ := hs.at hx rfl
      cases e
      have hr0 := hr 0 _ rfl
      rw [add_z] at hr0
      have hlt := foldN_lt (l.take i) 4294967295 (by decide)
      have hxl := x.toNat_lt
      have hcs : foldN 4294967295 (l.take (i + 1)) = byteN (foldN 4294967295 (l.take i)) x := by
        rw [List.take_add_one, hx]; unfold foldN; rw [List.foldl_append]; rfl
      simp (disch := first|exact dis|fail) only [go_sem, Int.reduceToNat, Nat.reduceMul, Nat.reduceAdd, Nat.reduceSub, ↓EU_region, ↓EU_draw, g6, g7, g8, g3, hr0]
      repeat refine WPo_ob ?_
      refine (LP_rule (fun m st => ∃ j tm', st = ⟨tm', h, []⟩ ∧ m = 8 - j ∧ j ≤ 8 ∧ Fr.get tm' 6 = .slice (some ⟨b, o, none⟩) l.length c ∧ Fr.get tm' 7 = .int .i64 l.length ∧ Fr.get tm' 8 = .int .i64 i ∧ Fr.get tm' 16 = .int .i64 j ∧ Fr.get tm' 3 = .int .u32 (iterN j (foldN 4294967295 (l.take i) ^^^ x.toNat) : Nat))
        (fun q => ∃ tm', q.2 = ⟨tm', h, []⟩ ∧ q.1 = .exit 2 ∧ Fr.get tm' 6 = .slice (some ⟨b, o, none⟩) l.length c ∧ Fr.get tm' 7 = .int .i64 l.length ∧ Fr.get tm' 8 = .int .i64 i ∧ Fr.get tm' 3 = .int .u32 (byteN (foldN 4294967295 (l.take i)) x : Nat)) ?_ 8 _ _ ?_ ?_).mono ?_
      · rintro m _ ⟨j, tm', rfl, rfl, hj, k6, k7, k8, k16, k3⟩
        have hlt2 := iterN_lt j _ (xor_lt32 hlt (by omega : x.toNat < 4294967296))
        obtain ⟨w, hw, hw2, hw3⟩ := step_code hlt2
        simp (disch := first|exact dis|fail) only [go_sem, Int.reduceToNat, Nat.reduceMul, Nat.reduceAdd, Nat.reduceSub, ↓EU_region, ↓EU_draw, k6, k7, k8, k16, k3, hw]
        ((repeat refine WPo_ob ?_); (first | refine WPo_cond (fun b2 => ?_) (fun b2 => ?_) | refine WPo_gard (fun b2 => ?_) (fun b2 => ?_) | refine WPo_gardT (fun b2 => ?_) (fun b2 => ?_)) <;> (try simp only [Bool.not_eq_true', Bool.not_eq_false'] at b2))
        · simp only [decide_eq_true_eq] at b2
          have hlt3 : (iterN j (foldN 4294967295 (l.take i) ^^^ x.toNat)) >>> 1 < 4294967296 := shr1_lt hlt2
          have hlt4 : 2197175160 &&& w < 4294967296 := Nat.lt_of_le_of_lt Nat.and_le_left (by decide)
          have hlt5 : (iterN j (foldN 4294967295 (l.take i) ^^^ x.toNat)) &&& 1 < 4294967296 := Nat.lt_of_le_of_lt Nat.and_le_left hlt2
          simp (disch := first|exact dis|fail) only [go_sem, Int.reduceToNat, Nat.reduceMul, Nat.reduceAdd, Nat.reduceSub, ↓EU_region, ↓EU_draw, k6, k7, k8, k16, k3, hw, hw3]
          refine ⟨_, by omega, j + 1, _, rfl, rfl, by omega, by simp (disch := first|exact dis|fail) only [go_sem, Int.reduceToNat, Nat.reduceMul, Nat.reduceAdd, Nat.reduceSub, ↓EU_region, ↓EU_draw, k6], by simp (disch := first|exact dis|fail) only [go_sem, Int.reduceToNat, Nat.reduceMul, Nat.reduceAdd, Nat.reduceSub, ↓EU_region, ↓EU_draw, k7], by simp (disch := first|exact dis|fail) only [go_sem, Int.reduceToNat, Nat.reduceMul, Nat.reduceAdd, Nat.reduceSub, ↓EU_region, ↓EU_draw, k8], by simp (disch := first|exact dis|fail) only [go_sem, Int.reduceToNat, Nat.reduceMul, Nat.reduceAdd, Nat.reduceSub, ↓EU_region, ↓EU_draw], ?_⟩
          simp (disch := first|exact dis|fail) only [go_sem, Int.reduceToNat, Nat.reduceMul, Nat.reduceAdd, Nat.reduceSub, ↓EU_region, ↓EU_draw, iterN_snoc]
        · simp only [decide_eq_false_iff_not] at b2
          have : j = 8 := by omega
          subst this
          simp (disch := first|exact dis|fail) only [go_sem, Int.reduceToNat, Nat.reduceMul, Nat.reduceAdd, Nat.reduceSub, ↓EU_region, ↓EU_draw]
          exact ⟨_, rfl, trivial, by simp (disch := first|exact dis|fail) only [go_sem, Int.reduceToNat, Nat.reduceMul, Nat.reduceAdd, Nat.reduceSub, ↓EU_region, ↓EU_draw, k6], by simp (disch := first|exact dis|fail) only [go_sem, Int.reduceToNat, Nat.reduceMul, Nat.reduceAdd, Nat.reduceSub, ↓EU_region, ↓EU_draw, k7], by simp (disch := first|exact dis|fail) only [go_sem, Int.reduceToNat, Nat.reduceMul, Nat.reduceAdd, Nat.reduceSub, ↓EU_region, ↓EU_draw, k8], by simp (disch := first|exact dis|fail) only [go_sem, Int.reduceToNat, Nat.reduceMul, Nat.reduceAdd, Nat.reduceSub, ↓EU_region, ↓EU_draw, k3]; rfl⟩
      · exact ⟨0, _, rfl, rfl, by omega, by simp (disch := first|exact dis|fail) only [go_sem, Int.reduceToNat, Nat.reduceMul, Nat.reduceAdd, Nat.reduceSub, ↓EU_region, ↓EU_draw, g6], by simp (disch := first|exact dis|fail) only [go_sem, Int.reduceToNat, Nat.reduceMul, Nat.reduceAdd, Nat.reduceSub, ↓EU_region, ↓EU_draw, g7], by simp (disch := first|exact dis|fail) only [go_sem, Int.reduceToNat, Nat.reduceMul, Nat.reduceAdd, Nat.reduceSub, ↓EU_region, ↓EU_draw, g8], by simp (disch := first|exact dis|fail) only [go_sem, Int.reduceToNat, Nat.reduceMul, Nat.reduceAdd, Nat.reduceSub, ↓EU_region, ↓EU_draw]; rfl, by simp (disch := first|exact dis|fail) only [go_sem, Int.reduceToNat, Nat.reduceMul, Nat.reduceAdd, Nat.reduceSub, ↓EU_region, ↓EU_draw]; rfl⟩
      · omega
      · rintro ⟨q, _⟩ ⟨tm', rfl, rfl, k6, k7, k8, k3⟩
        simp (disch := first|exact dis|fail) only [go_sem, Int.reduceToNat, Nat.reduceMul, Nat.reduceAdd, Nat.reduceSub, ↓EU_region, ↓EU_draw, k6, k7, k8]
        exact ⟨_, by omega, i + 1, _, rfl, rfl, by omega, by simp (disch := first|exact dis|fail) only [go_sem, Int.reduceToNat, Nat.reduceMul, Nat.reduceAdd, Nat.reduceSub, ↓EU_region, ↓EU_draw, k6], by simp (disch := first|exact dis|fail) only [go_sem, Int.reduceToNat, Nat.reduceMul, Nat.reduceAdd, Nat.reduceSub, ↓EU_region, ↓EU_draw, k7], by simp (disch := first|exact dis|fail) only [go_sem, Int.reduceToNat, Nat.reduceMul, Nat.reduceAdd, Nat.reduceSub, ↓EU_region, ↓EU_draw], by simp (disch := first|exact dis|fail) only [go_sem, Int.reduceToNat, Nat.reduceMul, Nat.reduceAdd, Nat.reduceSub, ↓EU_region, ↓EU_draw, k3]; rw [hcs]⟩
    · simp only [decide_eq_false_iff_not] at b1
      simp (disch := first|exact dis|fail) only [go_sem, Int.reduceToNat, Nat.reduceMul, Nat.reduceAdd, Nat.reduceSub, ↓EU_region, ↓EU_draw]
      have : i = l.length := by omega
      subst this
      rw [List.take_length] at g3
      exact ⟨_, rfl, trivial, by simp (disch := first|exact dis|fail) only [go_sem, Int.reduceToNat, Nat.reduceMul, Nat.reduceAdd, Nat.reduceSub, ↓EU_region, ↓EU_draw, g3]⟩
  · exact ⟨0, _, rfl, rfl, by omega, by simp (disch := first|exact dis|fail) only [go_sem, Int.reduceToNat, Nat.reduceMul, Nat.reduceAdd, Nat.reduceSub, ↓EU_region, ↓EU_draw], by simp (disch := first|exact dis|fail) only [go_sem, Int.reduceToNat, Nat.reduceMul, Nat.reduceAdd, Nat.reduceSub, ↓EU_region, ↓EU_draw], by simp (disch := first|exact dis|fail) only [go_sem, Int.reduceToNat, Nat.reduceMul, Nat.reduceAdd, Nat.reduceSub, ↓EU_region, ↓EU_draw]; rfl, by simp (disch := first|exact dis|fail) only [go_sem, Int.reduceToNat, Nat.reduceMul, Nat.reduceAdd, Nat.reduceSub, ↓EU_region, ↓EU_draw]; rfl⟩
  · omega
  · rintro ⟨q, _⟩ ⟨tm, rfl, rfl, g3⟩
    have hlt := foldN_lt l 4294967295 (by decide)
    simp (disch := first|exact dis|fail) only [go_sem, Int.reduceToNat, Nat.reduceMul, Nat.reduceAdd, Nat.reduceSub, ↓EU_region, ↓EU_draw, g3]
    exact ⟨rfl, Ext.refl _⟩
theorem clone_ev (l : List UInt8) (s : Value) (h : Heap) (hs : SL byteE 1 h s l) (hl : l.length < 900000) :
    WPo (EF Tryz.prog O0 39 [s] h) fun q => OW byteE 1 q.2 q.1 l ∧ Fresh h.next q.1 ∧ Ext h q.2 := by
  rw [EF_body (O := O0) (by kernel_rfl) Tryz.func39 rfl (rs := [.tmp 2]) rfl (bad := []) (by kernel_rfl) _ _ (m := 8) rfl]
  have hs' := hs
  cases hs with
  | nil =>
    simp (disch := first|exact dis|fail) only [go_sem, Int.reduceToNat, Nat.reduceMul, Nat.reduceAdd, Nat.reduceSub, ↓EU_region, ↓EU_draw]
    exact ⟨.nil, Fresh.nil _ _ _, Ext.refl _⟩
  | mk b o c l cs hb hc hll hx hcap hq =>
    simp (disch := first|exact dis|fail) only [go_sem, Int.reduceToNat, Nat.reduceMul, Nat.reduceAdd, Nat.reduceSub, ↓EU_region, ↓EU_draw]
    repeat refine WPo_ob ?_
    refine append_own (h0 := h) (l := []) (l' := l) fc_ap_37_37 (fun _ => rfl) (by decide) byteE_scal ((Ext.refl h).push _) (OW.lit byteE_len h []) (Fresh.mk _ _ _ (Nat.le_refl _)) (hs'.ext ((Ext.refl h).push _)) (by simp; omega) (by simp; omega) fun v h' ho hf x _ _ => ?_
    simp (disch := first|exact dis|fail) only [go_sem, Int.reduceToNat, Nat.reduceMul, Nat.reduceAdd, Nat.reduceSub, ↓EU_region, ↓EU_draw]
    exact ⟨ho, hf, x⟩
/-- the four bytes behind -/
noncomputable def tailN (c : Nat) : List UInt8 := [UInt8.ofNat (c >>> 24), UInt8.ofNat (c >>> 16), UInt8.ofNat (c >>> 8), UInt8.ofNat c]
noncomputable def sealN (l : List UInt8) : List UInt8 := l ++ tailN (crcN l)
theorem conv_u8 (n : Nat) : wrapF .u8 (n : Int) = ((UInt8.ofNat n).toNat : Int) := by
  show Int.emod (n : Int) 256 = _
  rw [UInt8.toNat_ofNat']
  rfl
theorem put_ev (l : List UInt8) (s : Value) (h : Heap) (hs : SL byteE 1 h s l) (hl : l.length < 800000) :
    WPo (EF Tryz.prog O0 81 [s] h) fun q => OW byteE 1 q.2 q.1 (sealN l) ∧ Fresh h.next q.1 ∧ Ext h q.2 := by
  have hc := crcN_lt l
  rw [EF_body (O := O0) (by kernel_rfl) Tryz.func81 rfl (rs := [.tmp 2]) rfl (bad := []) (by kernel_rfl) _ _ (m := 21) rfl]
  simp (disch := first|exact dis|fail) only [go_sem, Int.reduceToNat, Nat.reduceMul, Nat.reduceAdd, Nat.reduceSub, ↓EU_region, ↓EU_draw]
  repeat refine WPo_ob ?_
  refine (of_ev l s h hs (by omega)).bind fun h1 x1 => ?_
  simp (disch := first|exact dis|fail) only [go_sem, Int.reduceToNat, Nat.reduceMul, Nat.reduceAdd, Nat.reduceSub, ↓EU_region, ↓EU_draw]
  repeat refine WPo_ob ?_
  refine (clone_ev l s h1 (hs.ext x1) (by omega)).mono ?_
  rintro ⟨v, h2⟩ ⟨ho, hf, x2⟩
  simp (disch := first|exact dis|fail) only [go_sem, Int.reduceToNat, Nat.reduceMul, Nat.reduceAdd, Nat.reduceSub, ↓EU_region, ↓EU_draw, conv_u8]
  repeat refine WPo_ob ?_
  refine append_own (h0 := h) (l := l) (l' := tailN (crcN l)) fc_ap_37_37 (fun _ => rfl) (by decide) byteE_scal ((x1.trans x2).push _) (ho.ext ((Ext.refl h2).push _)) (hf.mono x1.le) (OW.lit byteE_len h2 (tailN (crcN l))).sl (by simp [tailN]; omega) (by simp [tailN]; omega) fun v h' ho hf x _ _ => ?_
  simp (disch := first|exact dis|fail) only [go_sem, Int.reduceToNat, Nat.reduceMul, Nat.reduceAdd, Nat.reduceSub, ↓EU_region, ↓EU_draw]
  exact ⟨ho, hf, x⟩
theorem bytesEq_ev (l m : List UInt8) (s t : Value) (h : Heap) (hs : SL byteE 1 h s l) (ht : SL byteE 1 h t m) : EF Tryz.prog O0 103 [s, t] h = some (.bool (decide (l = m)), h) := by
  have : WPo (EF Tryz.prog O0 103 [s, t] h) fun q => q = (.bool (decide (l = m)), h) := by
    have e1 := conv_str fc_un_37 fc_un_9 fc_un_5 hs
    have e2 := conv_str fc_un_37 fc_un_9 fc_un_5 ht
    rw [EF_body (O := O0) (by kernel_rfl) Tryz.func103 rfl (rs := [.tmp 4]) rfl (bad := []) (by kernel_rfl) _ _ (m := 10) rfl]
    simp (disch := first|exact dis|fail) only [go_sem, Int.reduceToNat, Nat.reduceMul, Nat.reduceAdd, Nat.reduceSub, ↓EU_region, ↓EU_draw, e1, e2]
  obtain ⟨q, e, rfl⟩ := this
  exact e
noncomputable def openN (b : List UInt8) : Option (List UInt8) := if b.length < 4 then none else if sealN (b.take (b.length - 4)) = b then some (b.take (b.length - 4)) else none
theorem get_ev (l : List UInt8) (s : Value) (h : Heap) (hs : SL byteE 1 h s l) (hl : l.length < 800000) :
    WPo (EF Tryz.prog O0 99 [s] h) fun q => Ext h q.2 ∧ match openN l with
      | none => q.1 = .tuple ⟨[.slice none 0 1, .int .i64 9]⟩
      | some b => ∃ v, q.1 = .tuple ⟨[v, .int .i64 0]⟩ ∧ OW byteE 1 q.2 v b ∧ Fresh h.next v := by
  unfold openN
  rw [EF_body (O := O0) (by kernel_rfl) Tryz.func99 rfl (rs := [.tmp 2, .tmp 3]) rfl (bad := []) (by kernel_rfl) _ _ (m := 23) rfl]
  obtain ⟨a, c, hv⟩ := hs.val
  subst hv
  simp (disch := first|exact dis|fail) only [go_sem, Int.reduceToNat, Nat.reduceMul, Nat.reduceAdd, Nat.reduceSub, ↓EU_region, ↓EU_draw]
  ((repeat refine WPo_ob ?_); (first | refine WPo_cond (fun b1 => ?_) (fun b1 => ?_) | refine WPo_gard (fun b1 => ?_) (fun b1 => ?_) | refine WPo_gardT (fun b1 => ?_) (fun b1 => ?_)) <;> (try simp only [Bool.not_eq_true', Bool.not_eq_false'] at b1))
  · have b1' := b1
    simp only [decide_eq_false_iff_not] at b1'
    rw [if_neg (by omega)]
    obtain ⟨u, hu, su, bu⟩ := cut_to fc_sl_37 hs .i64 ((l.length : Int) - 4) (l.length - 4) (by omega) (by omega)
    simp (disch := first|exact dis|fail) only [go_sem, Int.reduceToNat, Nat.reduceMul, Nat.reduceAdd, Nat.reduceSub, ↓EU_region, ↓EU_draw, hu, b1]
    repeat refine WPo_ob ?_
    refine (put_ev _ u h su (by rw [List.length_take]; omega)).mono ?_
    rintro ⟨v, h1⟩ ⟨ho, hf, x1⟩
    have e1 := bytesEq_ev _ _ v _ h1 ho.sl (hs.ext x1)
    simp (disch := first|exact dis|fail) only [go_sem, Int.reduceToNat, Nat.reduceMul, Nat.reduceAdd, Nat.reduceSub, ↓EU_region, ↓EU_draw, e1, b1]
    ((repeat refine WPo_ob ?_); (first | refine WPo_cond (fun b2 => ?_) (fun b2 => ?_) | refine WPo_gard (fun b2 => ?_) (fun b2 => ?_) | refine WPo_gardT (fun b2 => ?_) (fun b2 => ?_)) <;> (try simp only [Bool.not_eq_true', Bool.not_eq_false'] at b2))
    · simp only [decide_eq_false_iff_not] at b2
      rw [if_neg b2]
      simp (disch := first|exact dis|fail) only [go_sem, Int.reduceToNat, Nat.reduceMul, Nat.reduceAdd, Nat.reduceSub, ↓EU_region, ↓EU_draw, b2]
      exact ⟨x1, by trivial⟩
    · have b2' := b2
      simp only [decide_eq_true_eq] at b2'
      rw [if_pos b2']
      obtain ⟨u', hu', su', bu'⟩ := cut_to fc_sl_37 (hs.ext x1) .i64 ((l.length : Int) - 4) (l.length - 4) (by omega) (by omega)
      simp (disch := first|exact dis|fail) only [go_sem, Int.reduceToNat, Nat.reduceMul, Nat.reduceAdd, Nat.reduceSub, ↓EU_region, ↓EU_draw, b2, hu']
      repeat refine WPo_ob ?_
      refine (clone_ev _ u' h1 su' (by rw [List.length_take]; omega)).mono ?_
      rintro ⟨v', h2⟩ ⟨ho2, hf2, x2⟩
      simp (disch := first|exact dis|fail) only [go_sem, Int.reduceToNat, Nat.reduceMul, Nat.reduceAdd, Nat.reduceSub, ↓EU_region, ↓EU_draw]
      exact ⟨x1.trans x2, v', rfl, ho2, hf2.mono x1.le⟩
  · have b1' := b1
    simp only [decide_eq_true_eq] at b1'
    rw [if_pos (by omega)]
    simp (disch := first|exact dis|fail) only [go_sem, Int.reduceToNat, Nat.reduceMul, Nat.reduceAdd, Nat.reduceSub, ↓EU_region, ↓EU_draw, b1]
    exact ⟨Ext.refl _, by trivial⟩
theorem crc_ev (l : List UInt8) (s : Value) (h : Heap) (hs : SL byteE 1 h s l) (hl : l.length < 900000) :
    Pu (EF Tryz.prog O0 66 [s] h) h (.int .u32 (crcN l : Nat)) := by
  unfold Pu
  rw [EF_body (O := O0) (by kernel_rfl) Tryz.func66 rfl (rs := [.tmp 2]) rfl (bad := []) (by kernel_rfl) _ _ (m := 34) rfl]
  obtain ⟨a, c, hv⟩ := hs.val
  subst hv
  simp (disch := first|exact dis|fail) only [go_sem, Int.reduceToNat, Nat.reduceMul, Nat.reduceAdd, Nat.reduceSub, ↓EU_region, ↓EU_draw]
  repeat refine WPo_ob ?_
  refine (LP_rule (fun m st => ∃ i tm, st = ⟨tm, h, []⟩ ∧ m = l.length - i ∧ i ≤ l.length ∧ Fr.get tm 0 = .slice a l.length c ∧ Fr.get tm 4 = .int .i64 i ∧ Fr.get tm 3 = .int .u32 (foldN 4294967295 (l.take i) : Nat))
    (fun q => ∃ tm, q.2 = ⟨tm, h, []⟩ ∧ q.1 = .exit 0 ∧ Fr.get tm 3 = .int .u32 (foldN 4294967295 l : Nat)) ?_ l.length _ _ ?_ ?_).mono ?_
  · rintro m _ ⟨i, tm, rfl, rfl, hi, g0, g4, g3⟩
    simp (disch := first|exact dis|fail) only [go_sem, Int.reduceToNat, Nat.reduceMul, Nat.reduceAdd, Nat.reduceSub, ↓EU_region, ↓EU_draw, g0, g4, g3]
    ((repeat refine WPo_ob ?_); (first | refine WPo_cond (fun b1 => ?_) (fun b1 => ?_) | refine WPo_gard (fun b1 => ?_) (fun b1 => ?_) | refine WPo_gardT (fun b1 => ?_) (fun b1 => ?_)) <;> (try simp only [Bool.not_eq_true', Bool.not_eq_false'] at b1))
    · simp only [decide_eq_true_eq] at b1
      have hi' : i < l.length := by omega
      obtain ⟨x, hx⟩ : ∃ x, l[i]? = some x := ⟨_, List.getElem?_eq_getElem hi'⟩
      obtain ⟨b, o, c', e, hb', _, hr⟩ := hs.at hx rfl
      cases e
      have hr0 := hr 0 _ rfl
      rw [add_z] at hr0
      have hlt := foldN_lt (l.take i) 4294967295 (by decide)
      have hxl := x.toNat_lt
      have hcs : foldN 4294967295 (l.take (i + 1)) = byteN (foldN 4294967295 (l.take i)) x := by
        rw [List.take_add_one, hx]; unfold foldN; rw [List.foldl_append]; rfl
      simp (disch := first|exact dis|fail) only [go_sem, Int.reduceToNat, Nat.reduceMul, Nat.reduceAdd, Nat.reduceSub, ↓EU_region, ↓EU_draw, g0, g4, g3, hr0]
      repeat refine WPo_ob ?_
      refine (LP_rule (fun m st => ∃ j tm', st = ⟨tm', h, []⟩ ∧ m = 8 - j ∧ j ≤ 8 ∧ Fr.get tm' 0 = .slice (some ⟨b, o, none⟩) l.length c ∧ Fr.get tm' 4 = .int .i64 i ∧ Fr.get tm' 5 = .int .i64 j ∧ Fr.get tm' 3 = .int .u32 (iterN j (foldN 4294967295 (l.take i) ^^^ x.toNat) : Nat))
        (fun q => ∃ tm', q.2 = ⟨tm', h, []⟩ ∧ q.1 = .exit 2 ∧ Fr.get tm' 0 = .slice (some ⟨b, o, none⟩) l.length c ∧ Fr.get tm' 4 = .int .i64 i ∧ Fr.get tm' 3 = .int .u32 (byteN (foldN 4294967295 (l.take i)) x : Nat)) ?_ 8 _ _ ?_ ?_).mono ?_
      · rintro m _ ⟨j, tm', rfl, rfl, hj, k0, k4, k5, k3⟩
        have hlt2 := iterN_lt j _ (xor_lt32 hlt (by omega : x.toNat < 4294967296))
        have hst := iterN_snoc j (foldN 4294967295 (l.take i) ^^^ x.toNat)
        unfold stepN at hst
        simp (disch := first|exact dis|fail) only [go_sem, Int.reduceToNat, Nat.reduceMul, Nat.reduceAdd, Nat.reduceSub, ↓EU_region, ↓EU_draw, k0, k4, k5, k3]
        ((repeat refine WPo_ob ?_); (first | refine WPo_cond (fun b2 => ?_) (fun b2 => ?_) | refine WPo_gard (fun b2 => ?_) (fun b2 => ?_) | refine WPo_gardT (fun b2 => ?_) (fun b2 => ?_)) <;> (try simp only [Bool.not_eq_true', Bool.not_eq_false'] at b2))
        · simp only [decide_eq_true_eq] at b2
          have hlt3 : (iterN j (foldN 4294967295 (l.take i) ^^^ x.toNat)) >>> 1 < 4294967296 := shr1_lt hlt2
          have hlt5 : (iterN j (foldN 4294967295 (l.take i) ^^^ x.toNat)) &&& 1 < 4294967296 := Nat.lt_of_le_of_lt Nat.and_le_left hlt2
          simp (disch := first|exact dis|fail) only [go_sem, Int.reduceToNat, Nat.reduceMul, Nat.reduceAdd, Nat.reduceSub, ↓EU_region, ↓EU_draw, k0, k4, k5, k3]
          ((repeat refine WPo_ob ?_); (first | refine WPo_cond (fun b3 => ?_) (fun b3 => ?_) | refine WPo_gard (fun b3 => ?_) (fun b3 => ?_) | refine WPo_gardT (fun b3 => ?_) (fun b3 => ?_)) <;> (try simp only [Bool.not_eq_true', Bool.not_eq_false'] at b3))
          · have b3' := b3
            simp only [decide_eq_true_eq, Nat.and_one_is_mod] at b3'
            rw [if_pos (by omega)] at hst
            simp (disch := first|exact dis|fail) only [go_sem, Int.reduceToNat, Nat.reduceMul, Nat.reduceAdd, Nat.reduceSub, ↓EU_region, ↓EU_draw, k0, k4, k5, k3, b3]
            exact ⟨_, by omega, j + 1, _, rfl, rfl, by omega, by simp (disch := first|exact dis|fail) only [go_sem, Int.reduceToNat, Nat.reduceMul, Nat.reduceAdd, Nat.reduceSub, ↓EU_region, ↓EU_draw, k0], by simp (disch := first|exact dis|fail) only [go_sem, Int.reduceToNat, Nat.reduceMul, Nat.reduceAdd, Nat.reduceSub, ↓EU_region, ↓EU_draw, k4], by simp (disch := first|exact dis|fail) only [go_sem, Int.reduceToNat, Nat.reduceMul, Nat.reduceAdd, Nat.reduceSub, ↓EU_region, ↓EU_draw], by simp (disch := first|exact dis|fail) only [go_sem, Int.reduceToNat, Nat.reduceMul, Nat.reduceAdd, Nat.reduceSub, ↓EU_region, ↓EU_draw, hst]⟩
          · have b3' := b3
            simp only [decide_eq_false_iff_not, Nat.and_one_is_mod] at b3'
            rw [if_neg (by omega)] at hst
            simp (disch := first|exact dis|fail) only [go_sem, Int.reduceToNat, Nat.reduceMul, Nat.reduceAdd, Nat.reduceSub, ↓EU_region, ↓EU_draw, k0, k4, k5, k3, b3]
            exact ⟨_, by omega, j + 1, _, rfl, rfl, by omega, by simp (disch := first|exact dis|fail) only [go_sem, Int.reduceToNat, Nat.reduceMul, Nat.reduceAdd, Nat.reduceSub, ↓EU_region, ↓EU_draw, k0], by simp (disch := first|exact dis|fail) only [go_sem, Int.reduceToNat, Nat.reduceMul, Nat.reduceAdd, Nat.reduceSub, ↓EU_region, ↓EU_draw, k4], by simp (disch := first|exact dis|fail) only [go_sem, Int.reduceToNat, Nat.reduceMul, Nat.reduceAdd, Nat.reduceSub, ↓EU_region, ↓EU_draw], by simp (disch := first|exact dis|fail) only [go_sem, Int.reduceToNat, Nat.reduceMul, Nat.reduceAdd, Nat.reduceSub, ↓EU_region, ↓EU_draw, hst]⟩
        · simp only [decide_eq_false_iff_not] at b2
          have : j = 8 := by omega
          subst this
          simp (disch := first|exact dis|fail) only [go_sem, Int.reduceToNat, Nat.reduceMul, Nat.reduceAdd, Nat.reduceSub, ↓EU_region, ↓EU_draw]
          exact ⟨_, rfl, trivial, by simp (disch := first|exact dis|fail) only [go_sem, Int.reduceToNat, Nat.reduceMul, Nat.reduceAdd, Nat.reduceSub, ↓EU_region, ↓EU_draw, k0], by simp (disch := first|exact dis|fail) only [go_sem, Int.reduceToNat, Nat.reduceMul, Nat.reduceAdd, Nat.reduceSub, ↓EU_region, ↓EU_draw, k4], by simp (disch := first|exact dis|fail) only [go_sem, Int.reduceToNat, Nat.reduceMul, Nat.reduceAdd, Nat.reduceSub, ↓EU_region, ↓EU_draw, k3]; rfl⟩
      · exact ⟨0, _, rfl, rfl, by omega, by simp (disch := first|exact dis|fail) only [go_sem, Int.reduceToNat, Nat.reduceMul, Nat.reduceAdd, Nat.reduceSub, ↓EU_region, ↓EU_draw, g0], by simp (disch := first|exact dis|fail) only [go_sem, Int.reduceToNat, Nat.reduceMul, Nat.reduceAdd, Nat.reduceSub, ↓EU_region, ↓EU_draw, g4], by simp (disch := first|exact dis|fail) only [go_sem, Int.reduceToNat, Nat.reduceMul, Nat.reduceAdd, Nat.reduceSub, ↓EU_region, ↓EU_draw]; rfl, by simp (disch := first|exact dis|fail) only [go_sem, Int.reduceToNat, Nat.reduceMul, Nat.reduceAdd, Nat.reduceSub, ↓EU_region, ↓EU_draw]; rfl⟩
      · omega
      · rintro ⟨q, _⟩ ⟨tm', rfl, rfl, k0, k4, k3⟩
        simp (disch := first|exact dis|fail) only [go_sem, Int.reduceToNat, Nat.reduceMul, Nat.reduceAdd, Nat.reduceSub, ↓EU_region, ↓EU_draw, k0, k4]
        exact ⟨_, by omega, i + 1, _, rfl, rfl, by omega, by simp (disch := first|exact dis|fail) only [go_sem, Int.reduceToNat, Nat.reduceMul, Nat.reduceAdd, Nat.reduceSub, ↓EU_region, ↓EU_draw, k0], by simp (disch := first|exact dis|fail) only [go_sem, Int.reduceToNat, Nat.reduceMul, Nat.reduceAdd, Nat.reduceSub, ↓EU_region, ↓EU_draw], by simp (disch := first|exact dis|fail) only [go_sem, Int.reduceToNat, Nat.reduceMul, Nat.reduceAdd, Nat.reduceSub, ↓EU_region, ↓EU_draw, k3]; rw [hcs]⟩
    · simp only [decide_eq_false_iff_not] at b1
      simp (disch := first|exact dis|fail) only [go_sem, Int.reduceToNat, Nat.reduceMul, Nat.reduceAdd, Nat.reduceSub, ↓EU_region, ↓EU_draw]
      have : i = l.length := by omega
      subst this
      rw [List.take_length] at g3
      exact ⟨_, rfl, trivial, by simp (disch := first|exact dis|fail) only [go_sem, Int.reduceToNat, Nat.reduceMul, Nat.reduceAdd, Nat.reduceSub, ↓EU_region, ↓EU_draw, g3]⟩
  · exact ⟨0, _, rfl, rfl, by omega, by simp (disch := first|exact dis|fail) only [go_sem, Int.reduceToNat, Nat.reduceMul, Nat.reduceAdd, Nat.reduceSub, ↓EU_region, ↓EU_draw], by simp (disch := first|exact dis|fail) only [go_sem, Int.reduceToNat, Nat.reduceMul, Nat.reduceAdd, Nat.reduceSub, ↓EU_region, ↓EU_draw]; rfl, by simp (disch := first|exact dis|fail) only [go_sem, Int.reduceToNat, Nat.reduceMul, Nat.reduceAdd, Nat.reduceSub, ↓EU_region, ↓EU_draw]; rfl⟩
  · omega
  · rintro ⟨q, _⟩ ⟨tm, rfl, rfl, g3⟩
    have hlt := foldN_lt l 4294967295 (by decide)
    simp (disch := first|exact dis|fail) only [go_sem, Int.reduceToNat, Nat.reduceMul, Nat.reduceAdd, Nat.reduceSub, ↓EU_region, ↓EU_draw, g3]
    exact ⟨rfl, Ext.refl _⟩
theorem rseal_ev (l : List UInt8) (s : Value) (h : Heap) (hs : SL byteE 1 h s l) (hl : l.length < 800000) :
    WPo (EF Tryz.prog O0 46 [s] h) fun q => OW byteE 1 q.2 q.1 (sealN l) ∧ Fresh h.next q.1 ∧ Ext h q.2 := by
  have hc := crcN_lt l
  rw [EF_body (O := O0) (by kernel_rfl) Tryz.func46 rfl (rs := [.tmp 2]) rfl (bad := []) (by kernel_rfl) _ _ (m := 22) rfl]
  simp (disch := first|exact dis|fail) only [go_sem, Int.reduceToNat, Nat.reduceMul, Nat.reduceAdd, Nat.reduceSub, ↓EU_region, ↓EU_draw]
  repeat refine WPo_ob ?_
  refine (crc_ev l s h hs (by omega)).bind fun h1 x1 => ?_
  simp (disch := first|exact dis|fail) only [go_sem, Int.reduceToNat, Nat.reduceMul, Nat.reduceAdd, Nat.reduceSub, ↓EU_region, ↓EU_draw]
  repeat refine WPo_ob ?_
  refine append_own (h0 := h) (l := []) (l' := l) fc_ap_37_37 (fun _ => rfl) (by decide) byteE_scal (x1.push _) (OW.lit byteE_len h1 []) (Fresh.mk _ _ _ x1.le) (hs.ext (x1.push _)) (by simp; omega) (by simp; omega) fun v h2 ho hf x2 _ _ => ?_
  simp (disch := first|exact dis|fail) only [go_sem, Int.reduceToNat, Nat.reduceMul, Nat.reduceAdd, Nat.reduceSub, ↓EU_region, ↓EU_draw, conv_u8]
  repeat refine WPo_ob ?_
  refine append_own (h0 := h) (l := l) (l' := tailN (crcN l)) fc_ap_37_37 (fun _ => rfl) (by decide) byteE_scal (x2.push _) (ho.ext ((Ext.refl h2).push _)) hf (OW.lit byteE_len h2 (tailN (crcN l))).sl (by simp [tailN]; omega) (by simp [tailN]; omega) fun v h' ho hf x _ _ => ?_
  simp (disch := first|exact dis|fail) only [go_sem, Int.reduceToNat, Nat.reduceMul, Nat.reduceAdd, Nat.reduceSub, ↓EU_region, ↓EU_draw]
  exact ⟨ho, hf, x⟩
theorem ropen_ev (l : List UInt8) (s : Value) (h : Heap) (hs : SL byteE 1 h s l) (hl : l.length < 800000) :
    WPo (EF Tryz.prog O0 47 [s] h) fun q => Ext h q.2 ∧ match openN l with
      | none => q.1 = .tuple ⟨[.slice none 0 1, .int .i64 9]⟩
      | some b => ∃ v, q.1 = .tuple ⟨[v, .int .i64 0]⟩ ∧ OW byteE 1 q.2 v b ∧ Fresh h.next v := by
  unfold openN
  rw [EF_body (O := O0) (by kernel_rfl) Tryz.func47 rfl (rs := [.tmp 2, .tmp 3]) rfl (bad := [1]) (by kernel_rfl) _ _ (m := 26) rfl]
  obtain ⟨a, c, hv⟩ := hs.val
  subst hv
  simp (disch := first|exact dis|fail) only [go_sem, Int.reduceToNat, Nat.reduceMul, Nat.reduceAdd, Nat.reduceSub]
  (first | rw [EU_region] | rw [EU_draw _ _ rfl]); simp (disch := first|exact dis|fail) only [go_sem, Int.reduceToNat, Nat.reduceMul, Nat.reduceAdd, Nat.reduceSub]
  rw [EU_bad _ _ rfl, EC_tab (tab := [(false, none), (false, none), (false, none), (false, none), (false, none), (false, none), (false, none), (false, none), (false, none), (true, none), (false, none), (false, none), (false, (some (0, 1))), (false, none), (false, none)]) (by kernel_rfl)]
  simp (disch := first|exact dis|fail) only [go_sem, Int.reduceToNat, Nat.reduceMul, Nat.reduceAdd, Nat.reduceSub, ↓EU_region, ↓EU_draw]
  ((repeat refine WPo_ob ?_); (first | refine WPo_cond (fun b1 => ?_) (fun b1 => ?_) | refine WPo_gard (fun b1 => ?_) (fun b1 => ?_) | refine WPo_gardT (fun b1 => ?_) (fun b1 => ?_)) <;> (try simp only [Bool.not_eq_true', Bool.not_eq_false'] at b1))
  · have b1' := b1
    simp only [decide_eq_false_iff_not] at b1'
    rw [if_neg (by omega)]
    obtain ⟨u, hu, su, bu⟩ := cut_to fc_sl_37 hs .i64 ((l.length : Int) - 4) (l.length - 4) (by omega) (by omega)
    simp (disch := first|exact dis|fail) only [go_sem, Int.reduceToNat, Nat.reduceMul, Nat.reduceAdd, Nat.reduceSub, ↓EU_region, ↓EU_draw, hu, b1]
    repeat refine WPo_ob ?_
    refine (rseal_ev _ u h su (by rw [List.length_take]; omega)).mono ?_
    rintro ⟨v, h1⟩ ⟨ho, hf, x1⟩
    have e1 := conv_str fc_un_37 fc_un_9 fc_un_5 ho.sl
    have e2 := conv_str fc_un_37 fc_un_9 fc_un_5 (hs.ext x1)
    have e3 := conv_str fc_un_37 fc_un_9 fc_un_5 hs
    simp (disch := first|exact dis|fail) only [go_sem, Int.reduceToNat, Nat.reduceMul, Nat.reduceAdd, Nat.reduceSub, ↓EU_region, ↓EU_draw, e1, e2, e3, b1]
    ((repeat refine WPo_ob ?_); (first | refine WPo_cond (fun b2 => ?_) (fun b2 => ?_) | refine WPo_gard (fun b2 => ?_) (fun b2 => ?_) | refine WPo_gardT (fun b2 => ?_) (fun b2 => ?_)) <;> (try simp only [Bool.not_eq_true', Bool.not_eq_false'] at b2))
    · simp only [decide_eq_false_iff_not] at b2
      rw [if_neg b2]
      simp (disch := first|exact dis|fail) only [go_sem, Int.reduceToNat, Nat.reduceMul, Nat.reduceAdd, Nat.reduceSub, ↓EU_region, ↓EU_draw, b2]
      exact ⟨x1, by trivial⟩
    · have b2' := b2
      simp only [decide_eq_true_eq] at b2'
      rw [if_pos b2']
      obtain ⟨u', hu', su', bu'⟩ := cut_to fc_sl_37 (hs.ext (x1.push (.cells [] 1))) .i64 ((l.length : Int) - 4) (l.length - 4) (by omega) (by omega)
      simp (disch := first|exact dis|fail) only [go_sem, Int.reduceToNat, Nat.reduceMul, Nat.reduceAdd, Nat.reduceSub, ↓EU_region, ↓EU_draw, b2, hu']
      repeat refine WPo_ob ?_
      refine append_own (h0 := h) (l := []) (l' := l.take (l.length - 4)) fc_ap_37_37 (fun _ => rfl) (by decide) byteE_scal (x1.push _) (OW.lit byteE_len h1 []) (Fresh.mk _ _ _ x1.le) su' (by simp; omega) (by simp; omega) fun v' h2 ho2 hf2 x2 _ _ => ?_
      simp (disch := first|exact dis|fail) only [go_sem, Int.reduceToNat, Nat.reduceMul, Nat.reduceAdd, Nat.reduceSub, ↓EU_region, ↓EU_draw]
      exact ⟨x2, v', rfl, ho2, hf2⟩
  · have b1' := b1
    simp only [decide_eq_true_eq] at b1'
    rw [if_pos (by omega)]
    simp (disch := first|exact dis|fail) only [go_sem, Int.reduceToNat, Nat.reduceMul, Nat.reduceAdd, Nat.reduceSub, ↓EU_region, ↓EU_draw, b1]
    exact ⟨Ext.refl _, by trivial⟩
end Go.Proofs.YtddgcakiceodgaaGreat.EV
