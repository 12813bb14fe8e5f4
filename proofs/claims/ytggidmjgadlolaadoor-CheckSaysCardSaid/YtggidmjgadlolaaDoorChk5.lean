/- Plain facts on faults' texts. No condition. -/
import Derived.Test.YtggidmjgadlolaaDoorChk4
import Derived.Test.YtggidmjgadlolaaDoorLawNone
namespace Go.Proofs.YtggidmjgadlolaaDoor.EV
open Go Go.Proofs
set_option linter.unusedVariables false
set_option linter.unusedSimpArgs false
/-- a sign of a number -/
noncomputable def dig (b : UInt8) : Prop := b = 45 ∨ (48 ≤ b.toNat ∧ b.toNat ≤ 57)
theorem dec_dig (u : Nat) : ∀ b ∈ Lib.decDigits u, 48 ≤ b.toNat ∧ b.toNat ≤ 57 := by
  induction u using Nat.strongRecOn with
  | ind u ih =>
    intro b hb
    rw [Lib.decDigits] at hb
    split at hb
    · rename_i q
      rw [List.mem_singleton] at hb
      subst hb
      rw [UInt8.toNat_ofNat']
      omega
    · rename_i q
      rcases List.mem_append.1 hb with hb | hb
      · exact ih (u / 10) (by omega) b hb
      · rw [List.mem_singleton] at hb
        subst hb
        rw [UInt8.toNat_ofNat']
        omega
theorem itoaB_dig {n : Int} (h : i64R n) : ∀ b ∈ itoaB n, dig b := by
  rw [itoaB_eq h.1 h.2]
  unfold Lib.itoa
  split
  · intro b hb
    rcases List.mem_cons.1 hb with rfl | hb
    · exact .inl rfl
    · exact .inr (dec_dig _ b hb)
  · intro b hb
    exact .inr (dec_dig _ b hb)
theorem textF_ok {l : List Flt} (h : ∀ f ∈ l, FltR f) : textF l = [111, 107] ↔ l = [] := by
  constructor
  · intro e
    cases l with
    | nil => rfl
    | cons f r =>
      have hf := (h f (List.mem_cons_self ..)).1
      have h1 := (itoaB_len hf).1
      have h2 := itoaB_dig hf
      have e2 : (fltT f ++ r.flatMap fun g => 32 :: fltT g) = [111, 107] := e
      unfold fltT at e2
      cases hi : itoaB f.kind with
      | nil => rw [hi] at h1; simp at h1
      | cons b t =>
        rw [hi] at e2
        have := h2 b (by rw [hi]; exact List.mem_cons_self ..)
        simp only [List.cons_append, List.cons.injEq] at e2
        rw [e2.1] at this
        rcases this with q | ⟨_, q⟩
        · exact absurd q (by decide)
        · exact absurd q (by decide)
  · rintro rfl; rfl
theorem wf_R {n : Int} (h : (Lit.int .i64 n).wf = true) : i64R n := by
  simpa [Lit.wf, IntKind.min, IntKind.max, IntKind.signed, IntKind.bits, i64R] using h
theorem small_R {n : Int} (h0 : -1000 ≤ n) (h1 : n ≤ 100000000) : i64R n := ⟨by omega, by omega⟩
theorem ifF_R {b : Bool} {f : Flt} (h : FltR f) : ∀ g ∈ ifF b f, FltR g := by
  intro g hg
  unfold ifF at hg
  split at hg
  · rw [List.mem_singleton] at hg; subst hg; exact h
  · cases hg
theorem fGo_R : ∀ (p : Option Item) (l : List Item), (∀ x ∈ l, i64R x.id) → ∀ f ∈ fGo p l, FltR f
  | _, [], _, f, hf => by cases hf
  | p, x :: l, h, f, hf => by
    rcases List.mem_append.1 (show f ∈ flts x.id (chks p x) ++ fGo (some x) l from hf) with q | q
    · unfold flts at q
      obtain ⟨c, hc, rfl⟩ := List.mem_map.1 q
      have hc := (List.mem_filter.1 hc).1
      refine ⟨?_, h x (List.mem_cons_self ..)⟩
      simp only [chks, List.mem_cons, List.not_mem_nil, or_false] at hc
      rcases hc with rfl | rfl | rfl | rfl <;> exact small_R (by simp) (by simp)
    · exact fGo_R (some x) l (fun y hy => h y (List.mem_cons_of_mem _ hy)) f q
theorem formF_R {c : Int} {l : List Item} (hl : l.length < 900000) (hc : i64R c) (h : ∀ x ∈ l, i64R x.id) : ∀ f ∈ formF c l, FltR f := by
  intro f hf
  unfold formF at hf
  simp only [List.mem_append] at hf
  rcases hf with ((hf | hf) | hf) | hf
  · exact fGo_R _ _ h f hf
  · exact ifF_R ⟨small_R (by simp) (by simp), small_R (by show -1000 ≤ (l.length : Int); omega) (by show (l.length : Int) ≤ _; omega)⟩ f hf
  · exact ifF_R ⟨small_R (by simp) (by simp), hc⟩ f hf
  · exact ifF_R ⟨small_R (by simp) (by simp), small_R (by simp) (by simp)⟩ f hf
theorem faultsF_R {c1 c2 : Int} {l m : List Item} (hl : l.length < 900000) (hc : i64R c1) (h : ∀ x ∈ l, i64R x.id) (hm : ∀ x ∈ m, i64R x.id) : ∀ f ∈ faultsF c1 l c2 m, FltR f := by
  intro f hf
  unfold faultsF at hf
  split at hf
  · exact formF_R hl hc h f hf
  · unfold diffF at hf
    simp only [List.mem_append, List.mem_flatMap] at hf
    rcases hf with (⟨x, hx, hf⟩ | ⟨x, hx, hf⟩) | hf
    · unfold wantF at hf
      split at hf
      · rcases List.mem_append.1 hf with hf | hf
        · exact ifF_R ⟨small_R (by simp) (by simp), hm x hx⟩ f hf
        · exact ifF_R ⟨small_R (by simp) (by simp), hm x hx⟩ f hf
      · rw [List.mem_singleton] at hf
        subst hf
        exact ⟨small_R (by simp) (by simp), hm x hx⟩
    · exact ifF_R ⟨small_R (by simp) (by simp), h x hx⟩ f hf
    · exact ifF_R ⟨small_R (by simp) (by simp), hc⟩ f hf
theorem faultsF_len (c1 c2 : Int) (l m : List Item) : (faultsF c1 l c2 m).length ≤ 5 * l.length + 2 * m.length + 4 := by
  have h1 := formF_len c1 l
  have h2 := flat_len (wantF l) 2 (wantF_len l) m
  have h3 := flat_len (gotF m) 1 (fun x => ifF_len _ _) l
  have h4 := ifF_len (!decide (c1 = c2)) ⟨12, c1⟩
  unfold faultsF diffF
  split
  · omega
  · simp only [List.length_append]; omega
end Go.Proofs.YtggidmjgadlolaaDoor.EV
