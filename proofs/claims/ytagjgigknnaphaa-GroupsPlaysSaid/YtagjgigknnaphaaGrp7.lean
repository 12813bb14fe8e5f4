/- Groups, plainly. No condition. -/
import Derived.Test.YtagjgigknnaphaaGrp6
namespace Go.Proofs.Ytagjgigknnaphaa.EV
open Go Go.Proofs
set_option linter.unusedVariables false
set_option linter.unusedSimpArgs false
set_option maxRecDepth 100000
set_option pp.deepTerms false
set_option pp.deepTerms.threshold 20
/-- there is one way up from each, of at most four; it ends at the top -/
noncomputable def GI (gl : List Gp) : Prop := gl.length = 16 ∧ gat gl 0 = (true, -1) ∧ ∀ id, ∃ l, PA gl id l ∧ l.length ≤ 4 ∧ (l ≠ [] → l.getLast? = some 0)
theorem PA.uniq {gl : List Gp} {id : Int} {l m : List Int} (h : PA gl id l) : PA gl id m → l = m := by
  induction h generalizing m with
  | stop h =>
    intro k
    cases k with
    | stop _ => rfl
    | go k _ => rw [h] at k; cases k
  | go h r ih =>
    intro k
    cases k with
    | stop k => rw [h] at k; cases k
    | go _ k => rw [ih k]
theorem PA.head {gl : List Gp} {id : Int} {l : List Int} (h : PA gl id l) : (hasB gl id = false ∧ l = []) ∨ (hasB gl id = true ∧ ∃ m, l = id :: m ∧ PA gl (gat gl id).2 m) := by
  cases h with
  | stop h => exact .inl ⟨h, rfl⟩
  | go h r => exact .inr ⟨h, _, rfl, r⟩
/-- from each on it, the rest -/
theorem PA.suffix {gl : List Gp} {id : Int} {l : List Int} (h : PA gl id l) : ∀ b ∈ l, ∃ p m, l = p ++ m ∧ PA gl b m ∧ (p = [] → b = id) := by
  induction h with
  | stop h => intro b hb; cases hb
  | @go id l h r ih =>
    intro b hb
    rcases List.mem_cons.1 hb with e | e
    · subst e
      exact ⟨[], _, rfl, .go h r, fun _ => rfl⟩
    · obtain ⟨p, m, e1, e2, _⟩ := ih b e
      exact ⟨id :: p, m, by rw [e1]; rfl, e2, fun q => by cases q⟩
theorem hasB_iff {gl : List Gp} {id : Int} : hasB gl id = true ↔ 0 ≤ id ∧ id < 16 ∧ (gat gl id).1 = true := by
  unfold hasB
  simp [Bool.and_eq_true, decide_eq_true_eq]
theorem gat_set {gl : List Gp} (hl : gl.length = 16) {k : Nat} (hk : k < 16) (x : Gp) {id : Int} (h0 : 0 ≤ id) : gat (gl.set k x) id = if id = k then x else gat gl id := by
  unfold gat
  rw [List.getD_eq_getElem?_getD, List.getD_eq_getElem?_getD, List.getElem?_set]
  by_cases q : id = k
  · rw [if_pos q, if_pos (by omega)]
    rw [if_pos (by omega)]; rfl
  · rw [if_neg q, if_neg (by omega)]
theorem PA_set {gl : List Gp} (hl : gl.length = 16) (h0 : gat gl 0 = (true, -1)) {k : Nat} (hk : k < 16) (hf : (gat gl k).1 = false) (x : Gp) {id : Int} {l : List Int} (h : PA gl id l) : l.getLast? = some 0 → PA (gl.set k x) id l := by
  induction h with
  | stop h => intro q; cases q
  | @go id l h r ih =>
    intro q
    have hh := hasB_iff.1 h
    have hne : id ≠ k := fun e => by subst e; rw [hf] at hh; cases hh.2.2
    have hg : gat (gl.set k x) id = gat gl id := by rw [gat_set hl hk x hh.1, if_neg hne]
    refine .go (hasB_iff.2 ⟨hh.1, hh.2.1, by rw [hg]; exact hh.2.2⟩) ?_
    rw [hg]
    cases l with
    | nil =>
      have e : id = 0 := by simpa using q
      subst e
      rw [h0]
      exact .stop rfl
    | cons y l =>
      refine ih ?_
      simpa using q
theorem GI0 : GI gl0 := by
  refine ⟨rfl, rfl, fun id => ?_⟩
  by_cases q : id = 0
  · subst q
    exact ⟨[0], .go rfl (.stop rfl), by decide, fun _ => rfl⟩
  · refine ⟨[], .stop ?_, by decide, fun h => (h rfl).elim⟩
    cases hb : hasB gl0 id with
    | false => rfl
    | true =>
      have hh := hasB_iff.1 hb
      have e : gat gl0 id = (false, 0) := by
        unfold gat gl0
        obtain ⟨n, hn⟩ : ∃ n, id.toNat = n + 1 := ⟨id.toNat - 1, by omega⟩
        rw [hn, List.getD_cons_succ, List.getD_eq_getElem?_getD]
        cases hx : (List.replicate 15 ((false, 0) : Gp))[n]? with
        | none => rfl
        | some y => rw [(List.mem_replicate.1 (List.mem_of_getElem? hx)).2]; rfl
      rw [e] at hh
      cases hh.2.2
theorem freeR_some : ∀ (gl : List Gp) (n k : Nat), freeR gl n = some k → n ≤ k ∧ k - n < gl.length ∧ (gl.getD (k - n) (false, 0)).1 = false
  | [], _, _, h => by cases h
  | x :: gl, n, k, h => by
    unfold freeR at h
    cases hx : x.1 with
    | true =>
      rw [hx, if_pos rfl] at h
      obtain ⟨h1, h2, h3⟩ := freeR_some gl (n + 1) k h
      have e : k - n = (k - (n + 1)) + 1 := by omega
      rw [e, List.getD_cons_succ, List.length_cons]
      exact ⟨by omega, by omega, h3⟩
    | false =>
      rw [hx, if_neg (by decide)] at h
      cases h
      rw [Nat.sub_self]
      exact ⟨Nat.le_refl _, by simp, hx⟩
theorem GI_add {gl : List Gp} (g : GI gl) (up : Int) {l : List Int} (hp : PA gl up l) : GI (gaddR gl up l.length).2.2 := by
  obtain ⟨g1, g2, g3⟩ := g
  unfold gaddR
  cases hb : hasB gl up with
  | false => exact ⟨g1, g2, g3⟩
  | true =>
    rw [if_pos rfl]
    by_cases hd : 4 ≤ l.length
    · rw [if_pos hd]; exact ⟨g1, g2, g3⟩
    · rw [if_neg hd]
      cases hf : freeR gl 0 with
      | none => exact ⟨g1, g2, g3⟩
      | some k =>
        obtain ⟨_, k1, k2⟩ := freeR_some gl 0 k hf
        rw [Nat.sub_zero] at k1 k2
        have hk : k < 16 := by omega
        have kf : (gat gl k).1 = false := k2
        have hk0 : k ≠ 0 := fun e => by subst e; rw [show ((0 : Nat) : Int) = 0 from rfl, g2] at kf; cases kf
        have gs := fun (id : Int) (h0 : 0 ≤ id) => gat_set g1 hk (true, up) (id := id) h0
        obtain ⟨l', q1, q2, q3⟩ := g3 up
        rw [q1.uniq hp] at q2 q3
        have hln : l ≠ [] := by
          rcases hp.head with ⟨q, _⟩ | ⟨_, m, rfl, _⟩
          · rw [hb] at q; cases q
          · simp
        refine ⟨by rw [List.length_set]; exact g1, by rw [gs 0 (by decide), if_neg (by omega)]; exact g2, fun id => ?_⟩
        by_cases e : id = k
        · subst e
          refine ⟨(k : Int) :: l, .go (hasB_iff.2 ⟨by omega, by omega, by rw [gs _ (by omega), if_pos rfl]⟩) ?_, by rw [List.length_cons]; omega, fun _ => ?_⟩
          · rw [gs _ (by omega), if_pos rfl]
            exact PA_set g1 g2 hk kf _ hp (q3 hln)
          · obtain ⟨y, m, rfl⟩ : ∃ y m, l = y :: m := by
              cases l with
              | nil => exact (hln rfl).elim
              | cons y m => exact ⟨y, m, rfl⟩
            rw [List.getLast?_cons_cons]
            exact q3 hln
        · obtain ⟨m, p1, p2, p3⟩ := g3 id
          by_cases hm : m = []
          · subst hm
            refine ⟨[], .stop ?_, p2, p3⟩
            rcases p1.head with ⟨q, _⟩ | ⟨_, m', e', _⟩
            · cases hb' : hasB (gl.set k (true, up)) id with
              | false => rfl
              | true =>
                have hh := hasB_iff.1 hb'
                rw [gs id hh.1, if_neg e] at hh
                rw [hasB_iff.2 hh] at q
                cases q
            · cases e'
          · exact ⟨m, PA_set g1 g2 hk kf _ p1 (p3 hm), p2, p3⟩
end Go.Proofs.Ytagjgigknnaphaa.EV
