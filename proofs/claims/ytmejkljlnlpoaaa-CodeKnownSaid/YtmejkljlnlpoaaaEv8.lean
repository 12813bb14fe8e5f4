/-
  EV, part 8: regions, those that draw their order too.
-/
import Derived.Test.YtmejkljlnlpoaaaEv7
namespace Go.Proofs.Ytmejkljlnlpoaaa.EV
set_option linter.unusedVariables false
set_option linter.unusedSimpArgs false
open Go Go.RowKit

section
variable {P : Program} {r : Rec}

/-! ### what an operation looks at -/
theorem opnds_congr {tm tm' : Fr} : ∀ {l : List Operand}, (∀ x ∈ l, opnd tm x = opnd tm' x) → opnds tm l = opnds tm' l
  | [], _ => rfl
  | x :: l, h => by simp only [opnds, h x (List.mem_cons_self ..), opnds_congr fun y hy => h y (List.mem_cons_of_mem _ hy)]
theorem parts_congr {tm tm' : Fr} : ∀ {l : List (Nat × Operand)}, (∀ x ∈ l.map (·.2), opnd tm x = opnd tm' x) → partsL tm l = partsL tm' l
  | [], _ => rfl
  | (i, x) :: l, h => by simp only [partsL, h x (by simp), parts_congr fun y hy => h y (by simp at hy ⊢; exact .inr hy)]
theorem optOpnd_congr {tm tm' : Fr} {x : Option Operand} (h : ∀ y ∈ x.toList, opnd tm y = opnd tm' y) : optOpnd tm x = optOpnd tm' x := by
  cases x with
  | none => rfl
  | some x => simp only [optOpnd, h x (by simp)]
theorem evOp_congr {tm tm' : Fr} (h : Heap) {op : Op} (hx : ∀ x ∈ op.operands.toList, opnd tm x = opnd tm' x) : evOp P tm h op = evOp P tm' h op := by
  cases op with
  | move x => simp only [evOp, evMove, hx x (by simp [Op.operands])]
  | assign x => simp only [evOp, evMove, hx x (by simp [Op.operands])]
  | pick c a b => simp only [evOp, evPick, hx c (by simp [Op.operands]), hx a (by simp [Op.operands]), hx b (by simp [Op.operands])]
  | alloc e => rfl
  | box e x => simp only [evOp, evBox, hx x (by simp [Op.operands])]
  | build t ps => simp only [evOp, evBuild, parts_congr (l := ps.toList) fun x hh => hx x (by simpa [Op.operands] using hh)]
  | buildSlice t len ps => simp only [evOp, evBuildSlice, parts_congr (l := ps.toList) fun x hh => hx x (by simpa [Op.operands] using hh)]
  | load t a => simp only [evOp, evLoad, hx a (by simp [Op.operands])]
  | store t a x => simp only [evOp, evStore, hx a (by simp [Op.operands]), hx x (by simp [Op.operands])]
  | nilCheck x => simp only [evOp, evNilCheck, hx x (by simp [Op.operands])]
  | binOp op t x y yt => simp only [evOp, evBinOp, hx x (by simp [Op.operands]), hx y (by simp [Op.operands])]
  | unOp op t x => simp only [evOp, evUnOp, hx x (by simp [Op.operands])]
  | convert s d x => simp only [evOp, evConvert, hx x (by simp [Op.operands])]
  | makeFunc fn a c =>
    cases fn <;> simp only [evOp, evMakeFunc]
    rw [opnds_congr (l := a.toList) fun x hh => hx x (by simp only [Op.operands, Array.toList_append, List.mem_append]; exact .inl hh), opnds_congr (l := c.toList) fun x hh => hx x (by simp only [Op.operands, Array.toList_append, List.mem_append]; exact .inr hh)]
  | makeMap t r => rfl
  | makeSlice t l c => simp only [evOp, evMakeSlice, hx l (by simp [Op.operands]), hx c (by simp [Op.operands])]
  | slice t x lo hi mx =>
    simp only [evOp, evSlice, hx x (by simp [Op.operands])]
    rw [optOpnd_congr (x := lo) fun y hy => hx y (by simp [Op.operands] at hy ⊢; simp [hy]), optOpnd_congr (x := hi) fun y hy => hx y (by simp [Op.operands] at hy ⊢; simp [hy]), optOpnd_congr (x := mx) fun y hy => hx y (by simp [Op.operands] at hy ⊢; simp [hy])]
  | fieldAddr t x f => simp only [evOp, evFieldAddr, hx x (by simp [Op.operands])]
  | field t x f => simp only [evOp, evField, hx x (by simp [Op.operands])]
  | indexAddr t x ix => simp only [evOp, evIndexAddr, hx x (by simp [Op.operands]), hx ix (by simp [Op.operands])]
  | index t x ix => simp only [evOp, evIndex, hx x (by simp [Op.operands]), hx ix (by simp [Op.operands])]
  | lookup t m k ok => simp only [evOp, evLookup, hx m (by simp [Op.operands]), hx k (by simp [Op.operands])]
  | mapUpdate t m k x => simp only [evOp, evMapUpdate, hx m (by simp [Op.operands]), hx k (by simp [Op.operands]), hx x (by simp [Op.operands])]
  | insert t m k x => simp only [evOp, evMapUpdate, hx m (by simp [Op.operands]), hx k (by simp [Op.operands]), hx x (by simp [Op.operands])]
  | mapEntry t m k => simp only [evOp, evMapEntry, hx m (by simp [Op.operands]), hx k (by simp [Op.operands])]
  | entryStore t m s x => simp only [evOp, evEntryStore, hx m (by simp [Op.operands]), hx s (by simp [Op.operands]), hx x (by simp [Op.operands])]
  | extract x i => simp only [evOp, evExtract, hx x (by simp [Op.operands])]
  | makeInterface t x => simp only [evOp, evMakeInterface, hx x (by simp [Op.operands])]
  | _ => rfl
theorem evO_op {o : Oper} {st : St} (hc : ¬ ∃ c, o.op = .call c) : evO P r o st = evOp P st.tm st.h o.op := by
  unfold evO
  split
  · rename_i c hop; exact absurd (Exists.intro c hop) hc
  · rfl
theorem evO_congr {tm tm' : Fr} (h : Heap) (ms ms' : List Nat) {o : Oper} (hx : ∀ x ∈ o.op.operands.toList, opnd tm x = opnd tm' x) : evO P r o ⟨tm, h, ms⟩ = evO P r o ⟨tm', h, ms'⟩ := by
  by_cases hc : ∃ c, o.op = .call c
  · obtain ⟨c, hop⟩ := hc
    rw [hop] at hx
    unfold evO
    rw [hop]
    simp only [evCall]
    have h1 : opnds tm c.args.toList = opnds tm' c.args.toList := opnds_congr fun x hh => hx x (by simp only [Op.operands, Call.operands, Array.toList_append, List.mem_append]; exact .inr hh)
    rw [h1]
    cases hcal : c.callee with
    | builtin b => rfl
    | value f =>
      have h2 : opnd tm f = opnd tm' f := hx f (by simp [Op.operands, Call.operands, hcal])
      simp only [h2]
    | invoke x m =>
      have h2 : opnd tm x = opnd tm' x := hx x (by simp [Op.operands, Call.operands, hcal])
      simp only [h2]
  · rw [evO_op hc, evO_op hc]
    exact evOp_congr h hx

/-! ### those that turn nothing -/
theorem keep {α β γ : Type} {x : Option α} {f : α → Option (β × γ)} {g : γ} {u : β × γ} (h : ob x f = some u) (hf : ∀ a u, f a = some u → u.2 = g) : u.2 = g := by
  obtain ⟨a, _, h2⟩ := ob_inv h
  exact hf a u h2
theorem keepg {β γ : Type} {b : Bool} {x : Option (β × γ)} {g : γ} {u : β × γ} (h : gd b x = some u) (hf : ∀ u, x = some u → u.2 = g) : u.2 = g := hf u (gd_inv h).2
theorem keeps {β γ : Type} {v : β} {g : γ} {u : β × γ} (h : some (v, g) = some u) : u.2 = g := by cases h; rfl
theorem evOp_same {tm : Fr} {h : Heap} {op : Op} {u : Value × Heap} (hc : cls op ≠ 2) (he : evOp P tm h op = some u) : u.2 = h := by
  cases op with
  | move x => exact keep he fun _ _ h => keeps h
  | assign x => exact keep he fun _ _ h => keeps h
  | pick c a b => exact keep he fun _ _ h => keep h fun _ _ h => keep h fun _ _ h => keep h fun _ _ h => keeps h
  | build t ps =>
    refine keep he fun _ _ h => keep h fun _ _ h => keep h fun d _ h => ?_
    cases d <;> first | cases h | exact keep h fun _ _ h => keep h fun _ _ h => keeps h
  | load t a => exact keep he fun _ _ h => keep h fun _ _ h => keep h fun _ _ h => keeps h
  | nilCheck x => exact keep he fun _ _ h => keepg h fun _ h => keeps h
  | binOp op t x y yt => exact keep he fun _ _ h => keep h fun _ _ h => keep h fun _ _ h => keeps h
  | unOp op t x => exact keep he fun _ _ h => keepg h fun _ h => keep h fun _ _ h => keepg h fun _ h => keeps h
  | makeFunc fn a c => cases fn <;> first | cases he | exact keep he fun _ _ h => keep h fun _ _ h => keeps h
  | slice t x lo hi mx =>
    refine keep he fun v _ h => keep h fun _ _ h => keep h fun _ _ h => keep h fun _ _ h => keep h fun d _ h => ?_
    cases v with
    | string s => exact keepg h fun _ h => keep h fun _ _ h => keeps h
    | slice a n c2 =>
      refine keep h fun _ _ h => keep h fun _ _ h => keep h fun _ _ h => ?_
      cases a with
      | none => exact keeps h
      | some a =>
        obtain ⟨b, o, sp⟩ := a
        cases sp with
        | some _ => cases h
        | none =>
          simp only [evCutSl] at h
          cases hq : (_ || Nat.beq (c2 % 2) 1) with
          | true => rw [hq] at h; exact keeps h
          | false => rw [hq] at h; exact keep h fun _ _ h => keepg h fun _ h => keeps h
    | pointer a =>
      cases a with
      | none => cases h
      | some a =>
        obtain ⟨b, o, sp⟩ := a
        cases sp with
        | some _ => cases h
        | none =>
          cases d with
          | array n e => exact keep h fun _ _ h => keep h fun _ _ h => keeps h
          | pointer arr => exact keep h fun _ _ h => keep h fun _ _ h => keep h fun _ _ h => keep h fun _ _ h => keeps h
          | _ => cases h
    | _ => cases h
  | fieldAddr t x f => exact keep he fun _ _ h => keep h fun _ _ h => keep h fun _ _ h => keep h fun _ _ h => keep h fun _ _ h => keep h fun _ _ h => keepg h fun _ h => keeps h
  | field t x f => exact keep he fun _ _ h => keep h fun _ _ h => keep h fun _ _ h => keep h fun _ _ h => keep h fun _ _ h => keep h fun _ _ h => keeps h
  | indexAddr t x ix =>
    refine keep he fun v _ h => keep h fun _ _ h => keep h fun _ _ h => keep h fun d _ h => ?_
    cases v with
    | pointer a =>
      cases a with
      | none => cases h
      | some a =>
        obtain ⟨b, o, sp⟩ := a
        cases sp with
        | some _ => cases h
        | none => exact keep h fun _ _ h => keep h fun _ _ h => keepg h fun _ h => keeps h
    | slice a n c =>
      cases a with
      | none => cases h
      | some a =>
        obtain ⟨b, o, sp⟩ := a
        cases sp with
        | some _ => cases h
        | none => exact keep h fun _ _ h => keep h fun _ _ h => keepg h fun _ h => keeps h
    | _ => cases h
  | index t x ix =>
    refine keep he fun v _ h => keep h fun _ _ h => keep h fun _ _ h => keep h fun d _ h => ?_
    cases v with
    | agg cs => exact keep h fun _ _ h => keep h fun _ _ h => keepg h fun _ h => keep h fun _ _ h => keeps h
    | string s => exact keepg h fun _ h => keep h fun _ _ h => keeps h
    | _ => cases h
  | lookup t m k ok => exact keep he fun _ _ h => keep h fun _ _ h => keep h fun _ _ h => keep h fun _ _ h => keep h fun _ _ h => keep h fun _ _ h => keep h fun _ _ h => keepg h fun _ h => keep h fun _ _ h => keep h fun _ _ h => keep h fun _ _ h => keeps h
  | extract x i => exact keep he fun _ _ h => keep h fun _ _ h => keep h fun _ _ h => keeps h
  | makeInterface t x => exact keep he fun _ _ h => keep h fun _ _ h => keepg h fun _ h => keeps h
  | call c => cases he
  | _ => first | cases he | exact absurd rfl hc

/-! ### those that do not even look -/
noncomputable def In (F : Heap → VH) : Prop := ∀ h u, F h = some u → ∀ h2, F h2 = some (u.1, h2)
theorem In.ob {α : Type} {x : Option α} {f : α → Heap → VH} (hf : ∀ a, In (f a)) : In (fun h => EV.ob x fun a => f a h) := by
  intro h u he h2
  obtain ⟨a, h1, h3⟩ := ob_inv he
  show EV.ob x (fun a => f a h2) = _
  rw [h1]
  exact hf a h u h3 h2
theorem In.gd {b : Bool} {f : Heap → VH} (hf : In f) : In (fun h => EV.gd b (f h)) := by
  intro h u he h2
  obtain ⟨h1, h3⟩ := gd_inv he
  show EV.gd b (f h2) = _
  rw [h1]
  exact hf h u h3 h2
theorem In.ret {v : Value} : In (fun h => some (v, h)) := by
  intro h u he h2
  cases he
  rfl
theorem In.none : In (fun _ => none) := fun h u he => by cases he
theorem evOp_in {tm : Fr} {op : Op} (hc : cls op = 0) : In (fun h => evOp P tm h op) := by
  cases op with
  | move x => exact In.ob fun _ => In.ret
  | assign x => exact In.ob fun _ => In.ret
  | pick c a b => exact In.ob fun _ => In.ob fun _ => In.ob fun _ => In.ob fun _ => In.ret
  | build t ps =>
    refine In.ob fun _ => In.ob fun _ => In.ob fun d => ?_
    cases d <;> first | exact In.none | exact In.ob fun _ => In.ob fun _ => In.ret
  | nilCheck x => exact In.ob fun _ => In.gd In.ret
  | binOp op t x y yt => exact In.ob fun _ => In.ob fun _ => In.ob fun _ => In.ret
  | unOp op t x => exact In.ob fun _ => In.gd (In.ob fun _ => In.gd In.ret)
  | makeFunc fn a c => cases fn <;> first | exact In.none | exact In.ob fun _ => In.ob fun _ => In.ret
  | fieldAddr t x f => exact In.ob fun _ => In.ob fun _ => In.ob fun _ => In.ob fun _ => In.ob fun _ => In.ob fun _ => In.gd In.ret
  | field t x f => exact In.ob fun _ => In.ob fun _ => In.ob fun _ => In.ob fun _ => In.ob fun _ => In.ob fun _ => In.ret
  | indexAddr t x ix =>
    refine In.ob fun v => In.ob fun _ => In.ob fun _ => In.ob fun d => ?_
    cases v with
    | pointer a =>
      cases a with
      | none => exact In.none
      | some a =>
        obtain ⟨b, o, sp⟩ := a
        cases sp with
        | some _ => exact In.none
        | none => exact In.ob fun _ => In.ob fun _ => In.gd In.ret
    | slice a n c =>
      cases a with
      | none => exact In.none
      | some a =>
        obtain ⟨b, o, sp⟩ := a
        cases sp with
        | some _ => exact In.none
        | none => exact In.ob fun _ => In.ob fun _ => In.gd In.ret
    | _ => exact In.none
  | index t x ix =>
    refine In.ob fun v => In.ob fun _ => In.ob fun _ => In.ob fun d => ?_
    cases v with
    | agg cs => exact In.ob fun _ => In.ob fun _ => In.gd (In.ob fun _ => In.ret)
    | string s => exact In.gd (In.ob fun _ => In.ret)
    | _ => exact In.none
  | extract x i => exact In.ob fun _ => In.ob fun _ => In.ob fun _ => In.ret
  | makeInterface t x => exact In.ob fun _ => In.ob fun _ => In.gd In.ret
  | _ => first | exact In.none | (simp [cls] at hc; done) | (exfalso; revert hc; simp only [cls]; split <;> simp)
theorem cls_call {c : Call} : cls (.call c) = (match c.callee with | .builtin .len => 1 | .builtin .cap | .builtin .max | .builtin .min => 0 | _ => 2) := by
  obtain ⟨ce, as, ts⟩ := c
  cases ce with
  | builtin b => cases b <;> rfl
  | value f => rfl
  | invoke _ _ => rfl
theorem evO_same {o : Oper} {st : St} {u : Value × Heap} (hc : cls o.op ≠ 2) (he : evO P r o st = some u) : u.2 = st.h := by
  by_cases hcall : ∃ c, o.op = .call c
  · obtain ⟨c, hop⟩ := hcall
    rw [hop, cls_call] at hc
    unfold evO at he
    rw [hop] at he
    obtain ⟨args, _, he⟩ := ob_inv he
    cases hcal : c.callee with
    | value f => rw [hcal] at hc; exact absurd rfl hc
    | invoke _ _ => rw [hcal] at hc; exact absurd rfl hc
    | builtin b =>
      rw [hcal] at he hc
      simp only at he
      unfold evBuiltin at he
      split at he <;> first | exact absurd rfl hc | cases he | exact keep he fun _ _ h => keep h fun _ _ h => keeps h | exact keep he fun _ _ h => keep h fun _ _ h => keep h fun _ _ h => keeps h
  · rw [evO_op hcall] at he
    exact evOp_same hc he
theorem evO_in {o : Oper} {tm : Fr} {ms : List Nat} (hc : cls o.op = 0) : In (fun h => evO P r o ⟨tm, h, ms⟩) := by
  by_cases hcall : ∃ c, o.op = .call c
  · obtain ⟨c, hop⟩ := hcall
    rw [hop, cls_call] at hc
    intro h u he h2
    unfold evO at he ⊢
    rw [hop] at he ⊢
    obtain ⟨args, e1, he⟩ := ob_inv he
    simp only [evCall]
    rw [show opnds tm c.args.toList = some args from e1]
    show (match c.callee with | .builtin b => evBuiltin P h2 b c.argTypes.toList args | .value f => EV.ob (opnd tm f) fun f => evCallV r h2 args f | .invoke x m => EV.ob (opnd tm x) fun v => evInvV P r h2 args m v) = _
    cases hcal : c.callee with
    | value f => rw [hcal] at hc; cases hc
    | invoke _ _ => rw [hcal] at hc; cases hc
    | builtin b =>
      rw [hcal] at he hc
      simp only at he ⊢
      unfold evBuiltin at he ⊢
      split at he <;> first | cases hc | cases he | skip
      · exact (In.ob fun _ => In.ob fun _ => In.ob fun _ => In.ret) h u he h2
      · exact (In.ob fun _ => In.ob fun _ => In.ret) h u he h2
      · exact (In.ob fun _ => In.ob fun _ => In.ret) h u he h2
  · intro h u he h2
    have he' : evO P r o ⟨tm, h, ms⟩ = some u := he
    show evO P r o ⟨tm, h2, ms⟩ = _
    rw [evO_op hcall] at he' ⊢
    exact evOp_in hc h u he' h2
end

/-! ### the trace of a region in the text's order -/
structure Tr (P : Program) (r : Rec) (nn : Nat) (all : List Oper) (ms : List Nat) (T : Nat → Fr) (Hp : Nat → Heap) (V : Nat → Value) (i : Nat) (o : Oper) : Prop where
  no : wantedL all o (T i) = false → V i = undef ∧ Hp (i + 1) = Hp i
  yes : wantedL all o (T i) = true → evO P r o ⟨T i, Hp i, ms⟩ = some (V i, Hp (i + 1))
  next : T (i + 1) = putL nn (T i) o.dst (V i)

theorem trace_spec {P : Program} {r : Rec} {nn : Nat} {all : List Oper} : ∀ (l : List Oper) (i : Nat) (st : St) (hs : List Heap) (rs : List Rd) (st' : St) (hs' : List Heap) (rs' : List Rd), evTrace P r nn all l i st hs rs = some (st', hs', rs') →
    ∃ (T : Nat → Fr) (Hp : Nat → Heap) (V : Nat → Value), T i = st.tm ∧ Hp i = st.h ∧ (∀ j o, l[j]? = some o → Tr P r nn all st.ms T Hp V (i + j) o) ∧ st' = ⟨T (i + l.length), Hp (i + l.length), st.ms⟩ ∧
      hs' = hs ++ ((List.range l.length).filter fun j => (l[j]?).any isEff).map (fun j => Hp (i + j + 1)) ∧ (∀ x ∈ rs, x ∈ rs') ∧ (∀ j o, l[j]? = some o → wantedL all o (T (i + j)) = true → cls o.op = 1 → (⟨i + j, o, T (i + j), V (i + j)⟩ : Rd) ∈ rs')
  | [], i, st, hs, rs, st', hs', rs', h => by
    simp only [evTrace, Option.some.injEq, Prod.mk.injEq] at h
    obtain ⟨rfl, rfl, rfl⟩ := h
    exact ⟨fun _ => st.tm, fun _ => st.h, fun _ => undef, rfl, rfl, (fun j o h => by simp at h), rfl, by simp, fun _ h => h, (fun j o h => by simp at h)⟩
  | o :: l, i, st, hs, rs, st', hs', rs', h => by
    simp only [evTrace] at h
    have go : ∀ (v : Value) (h1 : Heap) (rs1 : List Rd), evTrace P r nn all l (Nat.succ i) ⟨putL nn st.tm o.dst v, h1, st.ms⟩ (cnd (isEff o) (hs ++ [h1]) hs) rs1 = some (st', hs', rs') →
        (wantedL all o st.tm = false → v = undef ∧ h1 = st.h) → (wantedL all o st.tm = true → evO P r o st = some (v, h1)) → (∀ x ∈ rs, x ∈ rs1) → (wantedL all o st.tm = true → cls o.op = 1 → (⟨i, o, st.tm, v⟩ : Rd) ∈ rs1) →
        ∃ (T : Nat → Fr) (Hp : Nat → Heap) (V : Nat → Value), T i = st.tm ∧ Hp i = st.h ∧ (∀ j o', (o :: l)[j]? = some o' → Tr P r nn all st.ms T Hp V (i + j) o') ∧ st' = ⟨T (i + (o :: l).length), Hp (i + (o :: l).length), st.ms⟩ ∧
          hs' = hs ++ ((List.range (o :: l).length).filter fun j => ((o :: l)[j]?).any isEff).map (fun j => Hp (i + j + 1)) ∧ (∀ x ∈ rs, x ∈ rs') ∧ (∀ j o', (o :: l)[j]? = some o' → wantedL all o' (T (i + j)) = true → cls o'.op = 1 → (⟨i + j, o', T (i + j), V (i + j)⟩ : Rd) ∈ rs') := by
      intro v h1 rs1 hgo hno hyes hrs hrd
      obtain ⟨T, Hp, V, t1, t2, t3, t4, t5, t6, t7⟩ := trace_spec l (i + 1) _ _ _ _ _ _ hgo
      refine ⟨fun k => if k ≤ i then st.tm else T k, fun k => if k ≤ i then st.h else Hp k, fun k => if k ≤ i then v else V k, by simp, by simp, fun j o' hj => ?_, ?_, ?_, fun x hx => t6 x (hrs x hx), fun j o' hj hw hc => ?_⟩
      · cases j with
        | zero =>
          simp only [List.getElem?_cons_zero, Option.some.injEq] at hj
          subst hj
          simp only [Nat.add_zero]
          refine ⟨fun hw => ?_, fun hw => ?_, ?_⟩
          · simp only [Nat.le_refl, if_true, show ¬ i + 1 ≤ i by omega, if_false] at hw ⊢
            rw [t2]; exact hno hw
          · simp only [Nat.le_refl, if_true, show ¬ i + 1 ≤ i by omega, if_false] at hw ⊢
            rw [t2]; exact hyes hw
          · simp only [Nat.le_refl, if_true, show ¬ i + 1 ≤ i by omega, if_false]
            exact t1
        | succ j =>
          have h3 := t3 j o' (by simpa using hj)
          have e1 : ¬ i + (j + 1) ≤ i := by omega
          have e2 : ¬ i + (j + 1) + 1 ≤ i := by omega
          have e3 : i + 1 + j = i + (j + 1) := by omega
          rw [e3] at h3
          refine ⟨fun hw => ?_, fun hw => ?_, ?_⟩
          · simp only [e1, e2, if_false] at hw ⊢; exact h3.no hw
          · simp only [e1, e2, if_false] at hw ⊢; exact h3.yes hw
          · simp only [e1, e2, if_false]; exact h3.next
      · have e1 : ¬ i + (o :: l).length ≤ i := by simp
        simp only [e1, if_false]
        rw [t4]
        have : i + 1 + l.length = i + (o :: l).length := by simp; omega
        rw [this]
      · rw [t5]
        have hr : (List.range (o :: l).length) = 0 :: (List.range l.length).map (· + 1) := by rw [List.length_cons, List.range_succ_eq_map]
        have hf : ((List.range l.length).map (· + 1)).filter (fun j => ((o :: l)[j]?).any isEff) = ((List.range l.length).filter fun j => (l[j]?).any isEff).map (· + 1) := by
          rw [List.filter_map]
          rfl
        rw [hr, List.filter_cons]
        simp only [List.getElem?_cons_zero, Option.any_some]
        rw [hf]
        by_cases hc : isEff o = true
        · rw [if_pos hc, hc]
          simp only [cnd_true, List.map_cons, Nat.add_zero, show ¬ i + 1 ≤ i by omega, if_false, List.map_map, List.append_assoc, List.singleton_append, t2]
          congr 2
          apply List.map_congr_left
          intro j _
          simp only [Function.comp_apply, show ¬ i + (j + 1) + 1 ≤ i by omega, if_false]
          congr 1; omega
        · have hc' : isEff o = false := by simpa using hc
          rw [if_neg hc, hc']
          simp only [cnd_false, List.map_map]
          congr 1
          apply List.map_congr_left
          intro j _
          simp only [Function.comp_apply, show ¬ i + (j + 1) + 1 ≤ i by omega, if_false]
          congr 1; omega
      · cases j with
        | zero =>
          simp only [List.getElem?_cons_zero, Option.some.injEq] at hj
          subst hj
          simp only [Nat.add_zero, Nat.le_refl, if_true] at hw ⊢
          exact t6 _ (hrd hw hc)
        | succ j =>
          have e1 : ¬ i + (j + 1) ≤ i := by omega
          have e3 : i + 1 + j = i + (j + 1) := by omega
          simp only [e1, if_false] at hw ⊢
          have h3 := t7 j o' (by simpa using hj)
          rw [e3] at h3
          exact h3 hw hc
    cases hw : wantedL all o st.tm with
    | true =>
      rw [hw] at h
      simp only [cnd_true] at h
      obtain ⟨vh, h1, h⟩ := ob_inv h
      refine go vh.1 vh.2 _ h (fun q => by rw [hw] at q; cases q) (fun _ => h1) (fun x hx => ?_) (fun _ hc => ?_)
      · cases Nat.beq (cls o.op) 1 with
        | true => simp only [cnd_true]; exact List.mem_append_left _ hx
        | false => exact hx
      · rw [hc]; simp
    | false =>
      rw [hw] at h
      simp only [cnd_false] at h
      exact go undef st.h _ h (fun _ => ⟨rfl, rfl⟩) (fun q => by rw [hw] at q; cases q) (fun x hx => hx) (fun q => by rw [hw] at q; cases q)

/-! ### who comes ahead of whom -/
noncomputable def Bnd (o : Oper) (j : Nat) : Prop := ∃ e ∈ o.after.toList, Region.binds .any e = true ∧ e.on = j
theorem edgeBits_spec {acc : List Nat} {i : Nat} : ∀ {es : List Edge} {b : Nat}, edgeBits acc i es = some b → (∀ e ∈ es, Region.binds .any e = true → e.on < i ∧ b.testBit e.on = true) ∧
    ∀ j, b.testBit j = true → ∃ e ∈ es, Region.binds .any e = true ∧ (j = e.on ∨ (acc.getD e.on 0).testBit j = true)
  | [], b, h => by
    cases h
    exact ⟨fun e he => by simp at he, fun j hj => by simp at hj⟩
  | e :: es, b, h => by
    simp only [edgeBits] at h
    cases hb : Region.binds .any e with
    | false =>
      rw [hb] at h
      simp only [cnd_false] at h
      obtain ⟨h1, h2⟩ := edgeBits_spec h
      refine ⟨fun e' he' hb' => ?_, fun j hj => let ⟨e', a, b, c⟩ := h2 j hj; ⟨e', List.mem_cons_of_mem _ a, b, c⟩⟩
      rcases List.mem_cons.1 he' with rfl | he'
      · rw [hb] at hb'; cases hb'
      · exact h1 e' he' hb'
    | true =>
      rw [hb] at h
      simp only [cnd_true] at h
      cases hlt : Nat.blt e.on i with
      | false => rw [hlt] at h; cases h
      | true =>
        rw [hlt] at h
        simp only [cnd_true] at h
        have hlt' : e.on < i := Nat.le_of_ble_eq_true hlt
        cases h1 : edgeBits acc i es with
        | none => rw [h1] at h; cases h
        | some b1 =>
          rw [h1] at h
          simp only [Option.some.injEq] at h
          obtain ⟨h2, h3⟩ := edgeBits_spec h1
          have hbit : ∀ j, b.testBit j = ((b1.testBit j || decide (e.on = j)) || (acc.getD e.on 0).testBit j) := fun j => by
            rw [← h]
            show ((b1 ||| 2 ^ e.on) ||| acc.getD e.on 0).testBit j = _
            rw [Nat.testBit_or, Nat.testBit_or, Nat.testBit_two_pow]
          refine ⟨fun e' he' hb' => ?_, fun j hj => ?_⟩
          · rcases List.mem_cons.1 he' with rfl | he'
            · exact ⟨hlt', by rw [hbit]; simp⟩
            · obtain ⟨q1, q2⟩ := h2 e' he' hb'
              exact ⟨q1, by rw [hbit, q2]; rfl⟩
          · rw [hbit] at hj
            simp only [Bool.or_eq_true, decide_eq_true_eq] at hj
            rcases hj with (hj | hj) | hj
            · obtain ⟨e', a, b, c⟩ := h3 j hj; exact ⟨e', List.mem_cons_of_mem _ a, b, c⟩
            · exact ⟨e, List.mem_cons_self .., hb, .inl hj.symm⟩
            · exact ⟨e, List.mem_cons_self .., hb, .inr hj⟩
theorem ancGo_spec : ∀ {l : List Oper} {i : Nat} {acc A : List Nat}, acc.length = i → ancGo l i acc = some A → A.length = i + l.length ∧ (∀ j, j < i → A[j]? = acc[j]?) ∧ ∀ j o, l[j]? = some o → ∃ b acc', A[i + j]? = some b ∧ edgeBits acc' (i + j) o.after.toList = some b ∧ ∀ q, q < i + j → acc'[q]? = A[q]?
  | [], i, acc, A, hl, h => by cases h; exact ⟨by simpa using hl, fun _ _ => rfl, fun j o hj => by simp at hj⟩
  | o :: l, i, acc, A, hl, h => by
    simp only [ancGo] at h
    cases h1 : edgeBits acc i o.after.toList with
    | none => rw [h1] at h; cases h
    | some b =>
      rw [h1] at h
      simp only at h
      obtain ⟨q1, q2, q3⟩ := ancGo_spec (i := i + 1) (acc := acc ++ [b]) (by simp [hl]) h
      have hAi : A[i]? = some b := by rw [q2 i (by omega), List.getElem?_append_right (by omega)]; simp [hl]
      have hAl : ∀ j, j < i → A[j]? = acc[j]? := fun j hj => by rw [q2 j (by omega), List.getElem?_append_left (by omega)]
      refine ⟨by rw [q1]; simp; omega, hAl, fun j o' hj => ?_⟩
      cases j with
      | zero =>
        simp only [List.getElem?_cons_zero, Option.some.injEq] at hj
        subst hj
        exact ⟨b, acc, hAi, h1, fun q hq => (hAl q (by omega)).symm⟩
      | succ j =>
        obtain ⟨b', acc', r1, r2, r3⟩ := q3 j o' (by simpa using hj)
        have e : i + 1 + j = i + (j + 1) := by omega
        rw [e] at r1 r2 r3
        exact ⟨b', acc', r1, r2, r3⟩
theorem pairsTo_spec {all : List Oper} {b : Oper} {bits : Nat} : ∀ {l : List Oper} {i : Nat}, pairsTo all l i b bits = true → ∀ j o, l[j]? = some o → pairOK all o (i + j) b bits = true
  | [], _, _, j, o, h => by simp at h
  | a :: l, i, h, j, o, ho => by
    simp only [pairsTo, Bool.and_eq_true] at h
    cases j with
    | zero => simp only [List.getElem?_cons_zero, Option.some.injEq] at ho; subst ho; exact h.1
    | succ j =>
      have := pairsTo_spec h.2 j o (by simpa using ho)
      rwa [show i + 1 + j = i + (j + 1) by omega] at this
theorem pairsAll_spec {all : List Oper} : ∀ {l : List Oper} {bs : List Nat} {seen : List Oper}, pairsAll all seen l bs = true → ∀ j o b, l[j]? = some o → bs[j]? = some b → ∀ i a, (seen ++ l)[i]? = some a → i < seen.length + j → pairOK all a i o b = true
  | [], bs, seen, h, j, o, b, ho, _, _, _, _, _ => by simp at ho
  | x :: l, [], seen, h, j, o, b, ho, hb, i, a, ha, hi => by cases h
  | x :: l, y :: bs, seen, h, j, o, b, ho, hb, i, a, ha, hi => by
    simp only [pairsAll, Bool.and_eq_true] at h
    cases j with
    | zero =>
      simp only [List.getElem?_cons_zero, Option.some.injEq] at ho hb
      subst ho; subst hb
      have := pairsTo_spec h.1 i a (by rwa [List.getElem?_append_left (by omega)] at ha)
      rwa [Nat.zero_add] at this
    | succ j =>
      exact pairsAll_spec h.2 j o b (by simpa using ho) (by simpa using hb) i a (by simpa using ha) (by simp; omega)

theorem veq0_eq : ∀ {a b : Value}, veq0 a b = true → a = b := by
  intro a b h
  unfold veq0 at h
  split at h
  · simpa using h
  · simp only [Bool.and_eq_true, decide_eq_true_eq] at h; rw [h.1, h.2]
  · rename_i a b
    have : a.data.toList = b.data.toList := by simpa using h
    have h2 : a.data = b.data := Array.toList_inj.1 this
    rw [ByteArray.ext h2]
  · rfl
  · simp only [Bool.and_eq_true] at h; rw [beq_inv h.1, beq_inv h.2]
  · simp only [Bool.and_eq_true] at h; rw [beq_inv h.1, beq_inv h.2]
  · simp only [Bool.and_eq_true] at h; rw [beq_inv h.1, beq_inv h.2.1, beq_inv h.2.2.1, beq_inv h.2.2.2]
  · rfl
  · rw [beq_inv h]
  · rfl
  · rfl
  · cases h
theorem veq1_eq : ∀ {a b : Value}, veq1 a b = true → a = b := by
  intro a b h
  unfold veq1 at h
  split at h
  · simp only [Bool.and_eq_true] at h; rw [beq_inv h.1, veq0_eq h.2]
  · simp only [Bool.and_eq_true, List.isEmpty_iff] at h
    obtain ⟨h1, h2, h3, h4, h5⟩ := h
    rw [beq_inv h1, Array.toList_inj.1 (h2.trans h4.symm), Array.toList_inj.1 (h3.trans h5.symm)]
  · exact veq0_eq h
theorem veqL_eq : ∀ {a b : List Value}, veqL a b = true → a = b
  | [], [], _ => rfl
  | [], _ :: _, h => by cases h
  | _ :: _, [], h => by cases h
  | a :: l, b :: m, h => by
    simp only [veqL, Bool.and_eq_true] at h
    rw [veq1_eq h.1, veqL_eq h.2]
theorem veq_eq {a b : Value} (h : veq a b = true) : a = b := by
  unfold veq at h
  split at h
  · rename_i a b; rw [Array.toList_inj.1 (veqL_eq h)]
  · rename_i a b; rw [Array.toList_inj.1 (veqL_eq h)]
  · exact veq1_eq h

/-! ### a frame, of those that have run -/
theorem get_putL (n : Nat) (tm : Fr) (d : Option Tmp) (v : Value) (t : Nat) : Fr.get (putL n tm d v) t = if d = some t ∧ t < n then v else Fr.get tm t := by
  cases d with
  | none => simp [putL]
  | some d =>
    rw [putL, Fr.get_put]
    by_cases e : t = d
    · subst e; simp
    · have : ¬ d = t := fun q => e q.symm
      simp [e, this]
noncomputable def TL (nn : Nat) (all : List Oper) (T0 : Fr) (V : Nat → Value) (L : Nat → Bool) : Nat → Fr
  | 0 => T0
  | k + 1 => if L k = true then putL nn (TL nn all T0 V L k) (dstL all k) (V k) else TL nn all T0 V L k
section
variable {nn : Nat} {all : List Oper} {T0 : Fr} {V : Nat → Value}
theorem TL_congr {L L' : Nat → Bool} : ∀ k, (∀ j, j < k → L j = L' j) → TL nn all T0 V L k = TL nn all T0 V L' k
  | 0, _ => rfl
  | k + 1, h => by rw [TL, TL, h k (by omega), TL_congr k fun j hj => h j (by omega)]
theorem TL_le {L : Nat → Bool} {t : Nat} : ∀ k, (∀ j, j < k → dstL all j = some t → L j = true) → Fr.get (TL nn all T0 V L k) t = Fr.get (TL nn all T0 V (fun _ => true) k) t
  | 0, _ => rfl
  | k + 1, h => by
    have ih := TL_le (L := L) (t := t) k fun j hj => h j (by omega)
    rw [TL, TL, if_pos rfl, get_putL]
    by_cases c : L k = true
    · rw [if_pos c, get_putL, ih]
    · rw [if_neg c, ih]
      have : ¬ dstL all k = some t := fun e => c (h k (by omega) e)
      rw [if_neg (fun q => this q.1)]
theorem TL_ge {L : Nat → Bool} {t i : Nat} : ∀ k, i ≤ k → (∀ j, i ≤ j → j < k → dstL all j = some t → L j = false) → Fr.get (TL nn all T0 V L k) t = Fr.get (TL nn all T0 V L i) t
  | 0, hk, _ => by rw [show i = 0 by omega]
  | k + 1, hk, h => by
    by_cases e : i = k + 1
    · rw [e]
    · have ih := TL_ge (L := L) (t := t) k (by omega) fun j h1 h2 => h j h1 (by omega)
      rw [TL]
      by_cases c : L k = true
      · rw [if_pos c, get_putL, if_neg (fun q => by rw [h k (by omega) (by omega) q.1] at c; cases c), ih]
      · rw [if_neg c, ih]
theorem TL_ins {L L' : Nat → Bool} {i : Nat} (hi : L i = false) (hi' : L' i = true) (hL : ∀ j, j ≠ i → L' j = L j) (t : Nat) : ∀ k, i < k → (∀ j, i < j → j < k → L j = true → sameD (dstL all i) (dstL all j) = false) →
    Fr.get (TL nn all T0 V L' k) t = if dstL all i = some t ∧ t < nn then V i else Fr.get (TL nn all T0 V L k) t
  | 0, hk, _ => by omega
  | k + 1, hk, h => by
    by_cases e : i = k
    · subst e
      have e : TL nn all T0 V L (i + 1) = TL nn all T0 V L i := by rw [TL, if_neg (by rw [hi]; simp)]
      rw [e, TL, if_pos hi', get_putL, TL_congr i fun j hj => hL j (by omega)]
    · have ih := TL_ins hi hi' hL t k (by omega) fun j h1 h2 => h j h1 (by omega)
      rw [TL, TL, hL k (fun q => e q.symm)]
      by_cases c : L k = true
      · rw [if_pos c, if_pos c, get_putL, get_putL, ih]
        by_cases c1 : dstL all i = some t ∧ t < nn
        · rw [if_pos c1, if_pos c1]
          have hs := h k (by omega) (by omega) c
          rw [c1.1] at hs
          rw [if_neg (fun q => by rw [q.1] at hs; simp [sameD] at hs)]
        · rw [if_neg c1, if_neg c1]
      · rw [if_neg c, if_neg c, ih]
end
theorem FR.ext {M : List Loc} {nn : Nat} {tm tm' : Fr} {a : Array Value} (h : FR M nn tm a) (he : ∀ t, Fr.get tm' t = Fr.get tm t) : FR M nn tm' a := ⟨h.1, fun i => by rw [he]; exact h.2 i⟩
theorem mem_tmpsOf {t : Tmp} : ∀ {l : List Operand}, .tmp t ∈ l → t ∈ tmpsOf l
  | [], h => by simp at h
  | x :: l, h => by
    rcases List.mem_cons.1 h with rfl | h2
    · exact List.mem_cons_self ..
    · cases x with
      | tmp u => exact List.mem_cons_of_mem _ (mem_tmpsOf h2)
      | _ => exact mem_tmpsOf (l := l) h2
theorem opnd_of_get {tm tm' : Fr} {l : List Operand} (h : ∀ t ∈ tmpsOf l, Fr.get tm t = Fr.get tm' t) : ∀ x ∈ l, opnd tm x = opnd tm' x := by
  intro x hx
  cases x with
  | tmp t => simp only [opnd, h t (mem_tmpsOf hx)]
  | _ => rfl
theorem wanted_of_get {all : List Oper} {o : Oper} {tm tm' : Fr} (h : ∀ t ∈ usesL all o, Fr.get tm t = Fr.get tm' t) : wantedL all o tm = wantedL all o tm' := by
  unfold wantedL
  cases hg : o.guard with
  | none => rfl
  | some p =>
    obtain ⟨j, want⟩ := p
    simp only [guardL]
    cases hd : dstL all j with
    | none => rfl
    | some d =>
      simp only
      rw [h d (by unfold usesL; rw [hg]; simp [hd])]
theorem hitT_false {d : Option Tmp} {l : List Tmp} (h : hitT d l = false) {t : Nat} (ht : t ∈ l) : d ≠ some t := by
  intro e
  subst e
  simp only [hitT, List.any_eq_false] at h
  have := h t ht
  simp at this
theorem countP_ins (p q : Nat → Bool) (i : Nat) (hp : p i = true) (hq : q i = false) (hpq : ∀ j, j ≠ i → q j = p j) : ∀ n, (List.range n).countP p = (List.range n).countP q + (if i < n then 1 else 0)
  | 0 => by simp
  | n + 1 => by
    rw [List.range_succ, List.countP_append, List.countP_append, countP_ins p q i hp hq hpq n]
    by_cases e : n = i
    · subst e; simp [hp, hq]
    · have h1 := hpq n e
      simp only [List.countP_singleton, h1]
      by_cases c : i < n
      · simp [c, show i < n + 1 by omega]; omega
      · simp [c, show ¬ i < n + 1 by omega]

/-- how many of the turning ones stand ahead -/
noncomputable def cntE (l : List Oper) : Nat := l.countP isEff
theorem lo_le {bits : Nat} : ∀ {l : List Oper} {i q : Nat}, (∀ j o, l[j]? = some o → isEff o = true → bits.testBit (i + j) = true → j < q) → loOf bits l i ≤ cntE (l.take q)
  | [], i, q, h => by simp [loOf]
  | o :: l, i, q, h => by
    have ih : ∀ q', (∀ j o', l[j]? = some o' → isEff o' = true → bits.testBit (i + 1 + j) = true → j < q') → loOf bits l (i + 1) ≤ cntE (l.take q') := fun q' => lo_le
    have e0 : loOf bits l i.succ = loOf bits l (i + 1) := rfl
    simp only [loOf, e0]
    cases q with
    | zero =>
      have h0 : (isEff o && bits.testBit i) = false := by
        cases hc : (isEff o && bits.testBit i) with
        | false => rfl
        | true =>
          simp only [Bool.and_eq_true] at hc
          have := h 0 o rfl hc.1 (by simpa using hc.2)
          omega
      rw [h0, cnd_false]
      have := ih 0 fun j o' hj he hb => by
        have := h (j + 1) o' (by simpa using hj) he (by rwa [show i + (j + 1) = i + 1 + j by omega])
        omega
      simpa using this
    | succ q =>
      have := ih q fun j o' hj he hb => by
        have := h (j + 1) o' (by simpa using hj) he (by rwa [show i + (j + 1) = i + 1 + j by omega])
        omega
      rw [List.take_succ_cons]
      unfold cntE at this ⊢
      rw [List.countP_cons]
      cases he : isEff o with
      | false => simp only [Bool.false_and, cnd_false]; simpa using this
      | true =>
        cases hb : bits.testBit i with
        | true => simp only [Bool.and_self, cnd_true, if_true]; omega
        | false => simp only [Bool.and_false, cnd_false, if_true]; omega
theorem le_hi {x : Nat} : ∀ {l : List Oper} {A : List Nat} {q : Nat}, A.length = l.length → (∀ j o b, l[j]? = some o → A[j]? = some b → isEff o = true → j < q → b.testBit x = false) → cntE (l.take q) ≤ hiOf x l A
  | [], A, q, hl, h => by simp [cntE]
  | o :: l, [], q, hl, h => by simp at hl
  | o :: l, b :: bs, q, hl, h => by
    cases q with
    | zero => simp [cntE]
    | succ q =>
      have ih := le_hi (x := x) (l := l) (A := bs) (q := q) (by simpa using hl) fun j o' b' hj hb he hq => h (j + 1) o' b' (by simpa using hj) (by simpa using hb) he (by omega)
      rw [List.take_succ_cons]
      unfold cntE at ih ⊢
      rw [List.countP_cons]
      simp only [hiOf]
      cases he : isEff o with
      | false => simp only [cnd_false]; simpa using ih
      | true =>
        have := h 0 o b rfl rfl he (by omega)
        have hb : Nat.testBit b x = false := this
        rw [hb]
        simp only [cnd_true, cnd_false, if_true]
        omega
theorem rdAt_mem {P : Program} {r : Rec} {x : Rd} {ms : List Nat} : ∀ {l : List Heap}, rdAt P r x ms l = true → ∀ h ∈ l, rdOne P r x ms h = true
  | [], _, h, hh => by simp at hh
  | a :: l, hr, h, hh => by
    simp only [rdAt, Bool.and_eq_true] at hr
    rcases List.mem_cons.1 hh with rfl | hh
    · exact hr.1
    · exact rdAt_mem hr.2 h hh
theorem rdsOK_mem {P : Program} {r : Rec} {all : List Oper} {A ms : List Nat} {hs : List Heap} : ∀ {l : List Rd}, rdsOK P r all A ms hs l = true → ∀ x ∈ l, ∃ bits, A[x.i]? = some bits ∧ (loOf bits all 0 = hiOf x.i all A ∨ rdAt P r x ms ((hs.drop (loOf bits all 0)).take (Nat.succ (hiOf x.i all A) - loOf bits all 0)) = true)
  | [], _, x, hx => by simp at hx
  | y :: l, h, x, hx => by
    simp only [rdsOK, Bool.and_eq_true] at h
    rcases List.mem_cons.1 hx with rfl | hx
    · have h1 := h.1
      cases hA : A[x.i]? with
      | none => rw [hA] at h1; cases h1
      | some bits =>
        rw [hA] at h1
        simp only [Bool.or_eq_true] at h1
        exact ⟨bits, rfl, h1.imp beq_inv id⟩
    · exact rdsOK_mem h.2 x hx
theorem effs_at (l : List Oper) : ∀ (n : Nat), n ≤ l.length → ∀ i o, i < n → l[i]? = some o → isEff o = true → (((List.range n).filter fun j => (l[j]?).any isEff))[cntE (l.take i)]? = some i
  | 0, _, i, o, hi, _, _ => by omega
  | n + 1, hn, i, o, hi, ho, he => by
    have len : ∀ k, k ≤ l.length → ((List.range k).filter fun j => (l[j]?).any isEff).length = cntE (l.take k) := by
      intro k
      induction k with
      | zero => intro _; rfl
      | succ k ih =>
        intro hk
        rw [List.range_succ, List.filter_append, List.length_append, ih (by omega)]
        unfold cntE
        rw [List.take_succ_eq_append_getElem (by omega), List.countP_append, List.countP_singleton]
        simp only [List.filter_cons, List.filter_nil, List.getElem?_eq_getElem (show k < l.length by omega), Option.any_some]
        cases isEff l[k] <;> rfl
    rw [List.range_succ, List.filter_append]
    by_cases e : i = n
    · subst e
      rw [List.getElem?_append_right (by rw [len i (by omega)]; exact Nat.le_refl _), len i (by omega), Nat.sub_self]
      simp [ho, he]
    · have ih := effs_at l n (by omega) i o (by omega) ho he
      rw [List.getElem?_append_left (List.getElem?_eq_some_iff.1 ih).1]
      exact ih

/-! ### the region -/
theorem anc_listed {all : List Oper} {A : List Nat} (hA : ancGo all 0 [] = some A) (L : Nat → Bool)
    (hed : ∀ j o, all[j]? = some o → L j = true → ∀ e ∈ o.after.toList, Region.binds .any e = true → L e.on = true) :
    ∀ (n j : Nat), j < n → ∀ b o, A[j]? = some b → all[j]? = some o → (∀ e ∈ o.after.toList, Region.binds .any e = true → L e.on = true) → ∀ k, b.testBit k = true → L k = true
  | 0, j, hj, _, _, _, _, _, _, _ => by omega
  | n + 1, j, hj, b, o, hb, ho, he, k, hk => by
    obtain ⟨hlen, _, h3⟩ := ancGo_spec (l := all) (i := 0) (acc := []) rfl hA
    obtain ⟨b', acc', h4, h5, h6⟩ := h3 j o ho
    rw [Nat.zero_add] at h4 h5 h6
    rw [hb] at h4
    cases h4
    obtain ⟨q1, q2⟩ := edgeBits_spec h5
    obtain ⟨e, e1, e2, e3⟩ := q2 k hk
    rcases e3 with rfl | e3
    · exact he e e1 e2
    · have hlt := (q1 e e1 e2).1
      have hjl : j < all.length := (List.getElem?_eq_some_iff.1 ho).1
      have hAe : A[e.on]? = some (A[e.on]'(by omega)) := List.getElem?_eq_getElem _
      have hoe : all[e.on]? = some (all[e.on]'(by omega)) := List.getElem?_eq_getElem _
      rw [List.getD_eq_getElem?_getD, h6 e.on hlt, hAe] at e3
      exact anc_listed hA L hed n e.on (by omega) _ _ hAe hoe (fun e' he' hb' => hed _ _ hoe (he e e1 e2) e' he' hb') k e3
theorem edge_lt {all : List Oper} {A : List Nat} (hA : ancGo all 0 [] = some A) {j : Nat} {o : Oper} (ho : all[j]? = some o) : ∃ b, A[j]? = some b ∧ ∀ e ∈ o.after.toList, Region.binds .any e = true → e.on < j := by
  obtain ⟨hlen, _, h3⟩ := ancGo_spec (l := all) (i := 0) (acc := []) rfl hA
  obtain ⟨b', acc', h4, h5, h6⟩ := h3 j o ho
  rw [Nat.zero_add] at h4 h5 h6
  exact ⟨b', h4, fun e he hb => ((edgeBits_spec h5).1 e he hb).1⟩
theorem anc_lt {all : List Oper} {A : List Nat} (hA : ancGo all 0 [] = some A) {j : Nat} {b : Nat} {o : Oper} (hb : A[j]? = some b) (ho : all[j]? = some o) {k : Nat} (hk : b.testBit k = true) : k < j := by
  have := anc_listed hA (fun k => decide (k < j)) (fun j' o' ho' hj' e he hbe => by
    have h1 := (edge_lt hA ho').choose_spec.2 e he hbe
    simp only [decide_eq_true_eq] at hj' ⊢
    omega) (j + 1) j (by omega) b o hb ho (fun e he hbe => by
    have h1 := (edge_lt hA ho).choose_spec.2 e he hbe
    simp only [decide_eq_true_eq]
    omega) k hk
  simpa using this

section
variable {P : Program} {r : Rec} {nn : Nat} {all : List Oper} {ms : List Nat} {T : Nat → Fr} {Hp : Nat → Heap} {V : Nat → Value}
theorem T_eq (ht : ∀ j o, all[j]? = some o → Tr P r nn all ms T Hp V j o) : ∀ k, k ≤ all.length → T k = TL nn all (T 0) V (fun _ => true) k
  | 0, _ => rfl
  | k + 1, hk => by
    have ho : all[k]? = some (all[k]'(by omega)) := List.getElem?_eq_getElem _
    rw [(ht k _ ho).next, TL, if_pos rfl, ← T_eq ht k (by omega)]
    unfold dstL
    rw [ho]
theorem Hp_step (ht : ∀ j o, all[j]? = some o → Tr P r nn all ms T Hp V j o) {k : Nat} {o : Oper} (ho : all[k]? = some o) (he : isEff o = false) : Hp (k + 1) = Hp k := by
  cases hw : wantedL all o (T k) with
  | false => exact ((ht k o ho).no hw).2
  | true =>
    have hc : cls o.op ≠ 2 := fun e => by unfold isEff at he; rw [e] at he; cases he
    exact evO_same hc ((ht k o ho).yes hw)
theorem Hp_same (ht : ∀ j o, all[j]? = some o → Tr P r nn all ms T Hp V j o) {a : Nat} : ∀ b, a ≤ b → b ≤ all.length → (∀ j o, a ≤ j → j < b → all[j]? = some o → isEff o = false) → Hp b = Hp a
  | 0, h, _, _ => by rw [show a = 0 by omega]
  | b + 1, h, hb, hn => by
    by_cases e : a = b + 1
    · rw [e]
    · have ho : all[b]? = some (all[b]'(by omega)) := List.getElem?_eq_getElem _
      rw [Hp_step ht ho (hn b _ (by omega) (by omega) ho)]
      exact Hp_same ht b (by omega) (by omega) fun j o h1 h2 => hn j o h1 (by omega)
theorem hs_at (ht : ∀ j o, all[j]? = some o → Tr P r nn all ms T Hp V j o) : ∀ q, q ≤ all.length → ([Hp 0] ++ ((List.range all.length).filter fun j => (all[j]?).any isEff).map (fun j => Hp (0 + j + 1)))[cntE (all.take q)]? = some (Hp q)
  | 0, _ => rfl
  | q + 1, hq => by
    have ho : all[q]? = some (all[q]'(by omega)) := List.getElem?_eq_getElem _
    have hc : cntE (all.take (q + 1)) = cntE (all.take q) + if isEff (all[q]'(by omega)) = true then 1 else 0 := by
      unfold cntE
      rw [List.take_succ_eq_append_getElem (by omega), List.countP_append, List.countP_singleton]
    rw [hc]
    cases he : isEff (all[q]'(by omega)) with
    | false =>
      simp only [Bool.false_eq_true, if_false, Nat.add_zero]
      rw [hs_at ht q (by omega), Hp_step ht ho he]
    | true =>
      simp only [if_true]
      have := effs_at all all.length (Nat.le_refl _) q _ (by omega) ho he
      rw [List.singleton_append, List.getElem?_cons_succ, List.getElem?_map, this]
      simp only [Option.map_some, Nat.zero_add]
theorem cntE_eq {a : Nat} : ∀ b, a ≤ b → b ≤ all.length → cntE (all.take a) = cntE (all.take b) → ∀ j o, a ≤ j → j < b → all[j]? = some o → isEff o = false := by
  intro b hab hb he j o h1 h2 ho
  have hle : ∀ x y, x ≤ y → y ≤ all.length → cntE (all.take x) ≤ cntE (all.take y) := by
    intro x y hxy _
    unfold cntE
    have : all.take y = all.take x ++ (all.take y).drop x := by
      have := List.take_append_drop x (all.take y)
      rw [List.take_take, Nat.min_eq_left hxy] at this
      exact this.symm
    rw [this, List.countP_append]
    omega
  have hc : cntE (all.take (j + 1)) = cntE (all.take j) + if isEff o = true then 1 else 0 := by
    have hj : j < all.length := by omega
    unfold cntE
    rw [List.take_succ_eq_append_getElem hj, List.countP_append, List.countP_singleton]
    rw [List.getElem?_eq_getElem hj] at ho
    cases ho
    rfl
  have h3 := hle a j h1 (by omega)
  have h4 := hle (j + 1) b (by omega) hb
  cases hq : isEff o with
  | false => rfl
  | true => rw [hq, if_pos rfl] at hc; omega
end

structure Inv (ops : Array Oper) (nn : Nat) (ms : List Nat) (T0 : Fr) (Hp : Nat → Heap) (V : Nat → Value) (M : List Loc) (w0 : Base) (listed : Array Bool) (a : Act) (w : World) (q : Nat) (N : List Loc) : Prop where
  size : listed.size = ops.size
  edge : ∀ j o, ops.toList[j]? = some o → listed.getD j false = true → ∀ e ∈ o.after.toList, Region.binds .any e = true → listed.getD e.on false = true
  hq : q ≤ ops.toList.length
  effs : ∀ j o, ops.toList[j]? = some o → isEff o = true → (listed.getD j false = true ↔ j < q)
  heap : HR (M ++ N) w0 (Hp q) w
  frame : FR (M ++ N) nn (TL nn ops.toList T0 V (fun j => listed.getD j false) ops.toList.length) a.tmps
  defers : DR (M ++ N) ms a.defers

theorem getD_set {l : Array Bool} {i j : Nat} (hi : i < l.size) : (l.setIfInBounds i true).getD j false = if j = i then true else l.getD j false := by
  rw [Array.getD_eq_getD_getElem?, Array.getElem?_setIfInBounds, Array.getD_eq_getD_getElem?]
  by_cases e : j = i
  · subst e; simp [hi]
  · have : ¬ i = j := fun q => e q.symm
    simp [e, this]
theorem getD_free {l : Array Bool} {i : Nat} (hi : i < l.size) : l.getD i true = l.getD i false := by
  rw [Array.getD_eq_getD_getElem?, Array.getD_eq_getD_getElem?, Array.getElem?_eq_getElem hi]
  rfl

theorem region_draw {P : Program} (hN : ∀ fn ∈ P.funcs.toList, fn.name ≠ "runtime.NumGoroutine") {r : Rec} (hF : SF P r) (hC : SC P r) {nn : Nat} {ops : Array Oper} {A : List Nat} {ms : List Nat} {T : Nat → Fr} {Hp : Nat → Heap} {V : Nat → Value} {M : List Loc} {w0 : Base} (n : Nat) (ro' : Option Nat)
    (hreg : regOK ops.toList = some A) (ht : ∀ j o, ops.toList[j]? = some o → Tr P r nn ops.toList ms T Hp V j o)
    (hrd : ∀ j o, ops.toList[j]? = some o → wantedL ops.toList o (T j) = true → cls o.op = 1 → ∃ bits, A[j]? = some bits ∧ (loOf bits ops.toList 0 = hiOf j ops.toList A ∨ rdAt P r ⟨j, o, T j, V j⟩ ms ((([Hp 0] ++ ((List.range ops.toList.length).filter fun j => (ops.toList[j]?).any isEff).map (fun j => Hp (0 + j + 1))).drop (loOf bits ops.toList 0)).take (Nat.succ (hiOf j ops.toList A) - loOf bits ops.toList 0)) = true)) :
    ∀ (fuel : Nat) (listed : Array Bool) (a : Act) (w : World), (∃ q N, Inv ops nn ms (T 0) Hp V M w0 listed a w q N) → (List.range ops.toList.length).countP (fun j => !listed.getD j false) ≤ fuel →
      wpAnyIn (FW ro') n P .any ops (PostC M w0 nn .normal ⟨T ops.toList.length, Hp ops.toList.length, ms⟩) fuel listed a w := by
  have hanc : ancGo ops.toList 0 [] = some A := by
    unfold regOK at hreg
    cases h : ancGo ops.toList 0 [] with
    | none => rw [h] at hreg; cases hreg
    | some B =>
      rw [h] at hreg
      simp only at hreg
      cases hp : pairsAll ops.toList [] ops.toList B with
      | true => rw [hp] at hreg; simpa using hreg
      | false => rw [hp] at hreg; cases hreg
  have hpair : ∀ j o b, ops.toList[j]? = some o → A[j]? = some b → ∀ i x, ops.toList[i]? = some x → i < j → pairOK ops.toList x i o b = true := by
    unfold regOK at hreg
    rw [hanc] at hreg
    simp only at hreg
    cases hp : pairsAll ops.toList [] ops.toList A with
    | false => rw [hp] at hreg; cases hreg
    | true => exact fun j o b ho hb i x hx hij => pairsAll_spec hp j o b ho hb i x (by simpa using hx) (by simpa using hij)
  have hAlen : A.length = ops.toList.length := by
    have := (ancGo_spec (l := ops.toList) (i := 0) (acc := []) rfl hanc).1
    omega
  have hlen : ops.toList.length = ops.size := by simp
  have done : ∀ (listed : Array Bool) (a : Act) (w : World) q N, Inv ops nn ms (T 0) Hp V M w0 listed a w q N → (∀ j, j < ops.toList.length → listed.getD j false = true) → PostC M w0 nn .normal ⟨T ops.toList.length, Hp ops.toList.length, ms⟩ .normal a w := by
    intro listed a w q N I hall
    have h1 : Hp ops.toList.length = Hp q := Hp_same ht _ I.hq (Nat.le_refl _) fun j o h1 h2 ho => by
      cases he : isEff o with
      | false => rfl
      | true => exact absurd ((I.effs j o ho he).1 (hall j h2)) (by omega)
    refine ⟨rfl, N, ?_, ?_, I.defers⟩
    · show HR (M ++ N) w0 (Hp ops.toList.length) w
      rw [h1]; exact I.heap
    · show FR (M ++ N) nn (T ops.toList.length) a.tmps
      rw [T_eq ht _ (Nat.le_refl _), ← TL_congr (L := fun j => listed.getD j false) _ hall]
      exact I.frame
  have nil_all : ∀ (listed : Array Bool), listed.size = ops.size → Region.ready .any ops listed = [] → ∀ j, j < ops.toList.length → listed.getD j false = true := by
    intro listed hs hr j
    induction j using Nat.strongRecOn with
    | _ j ih =>
      intro hj
      cases hl : listed.getD j false with
      | true => rfl
      | false =>
        have ho : ops.toList[j]? = some (ops.toList[j]'hj) := List.getElem?_eq_getElem _
        have : j ∈ Region.ready .any ops listed := mem_ready.2 ⟨by rw [getD_free (by omega)]; exact hl, _, by rw [← Array.getElem?_toList]; exact ho, fun e he hb => by
          have hlt := (edge_lt hanc ho).choose_spec.2 e (Array.mem_toList_iff.2 he) hb
          exact ih e.on hlt (by omega)⟩
        rw [hr] at this
        cases this
  intro fuel
  induction fuel with
  | zero =>
    intro listed a w ⟨q, N, I⟩ hc
    have hall : ∀ j, j < ops.toList.length → listed.getD j false = true := fun j hj => by
      have h0 : (List.range ops.toList.length).countP (fun j => !listed.getD j false) = 0 := by omega
      rw [List.countP_eq_zero] at h0
      have := h0 j (List.mem_range.2 hj)
      simpa using this
    refine ⟨?_, done _ _ _ _ _ I hall⟩
    cases hr : Region.ready .any ops listed with
    | nil => rfl
    | cons i l =>
      have hi : i ∈ Region.ready .any ops listed := by rw [hr]; exact List.mem_cons_self ..
      obtain ⟨h1, o, h2, _⟩ := mem_ready.1 hi
      have hsz : i < ops.size := (Array.getElem?_eq_some_iff.1 h2).1
      rw [getD_free (by rw [I.size]; exact hsz), hall i (by omega)] at h1
      cases h1
  | succ fuel ih =>
    intro listed a w ⟨q, N, I⟩ hc
    refine ⟨fun hr => done _ _ _ _ _ I (nil_all _ I.size hr), fun i hi => ?_⟩
    obtain ⟨h1, o, h2, h3⟩ := mem_ready.1 hi
    have hsz : i < ops.size := (Array.getElem?_eq_some_iff.1 h2).1
    have hil : i < ops.toList.length := by omega
    have hLi : listed.getD i false = false := by rw [← getD_free (by rw [I.size]; exact hsz)]; exact h1
    have ho : ops.toList[i]? = some o := by rw [Array.getElem?_toList]; exact h2
    have h3' : ∀ e ∈ o.after.toList, Region.binds .any e = true → listed.getD e.on false = true := fun e he hb => h3 e (Array.mem_toList_iff.1 he) hb
    obtain ⟨b, hb, _⟩ := edge_lt hanc ho
    have hbits : ∀ k, b.testBit k = true → listed.getD k false = true := anc_listed hanc (fun k => listed.getD k false) I.edge (i + 1) i (by omega) b o hb ho h3'
    have hcl : ∀ j b' o', A[j]? = some b' → ops.toList[j]? = some o' → listed.getD j false = true → ∀ k, b'.testBit k = true → listed.getD k false = true := fun j b' o' hb' ho' hj =>
      anc_listed hanc (fun k => listed.getD k false) I.edge (j + 1) j (by omega) b' o' hb' ho' (I.edge j o' ho' hj)
    have hAj : ∀ j, j < ops.toList.length → ∃ b', A[j]? = some b' := fun j hj => ⟨A[j]'(by omega), List.getElem?_eq_getElem _⟩
    -- of what it looks at
    have huse : ∀ t ∈ usesL ops.toList o, Fr.get (TL nn ops.toList (T 0) V (fun j => listed.getD j false) ops.toList.length) t = Fr.get (T i) t := by
      intro t htu
      rw [TL_ge (i := i) _ (by omega) fun j hj1 hj2 hd => ?_, TL_le i fun j hj hd => ?_, ← T_eq ht i (by omega)]
      · have hoj : ops.toList[j]? = some (ops.toList[j]'(by omega)) := List.getElem?_eq_getElem _
        have hp := hpair i o b ho hb j _ hoj hj
        unfold pairOK at hp
        simp only [Bool.or_eq_true, Bool.not_eq_true'] at hp
        rcases hp with hp | hp
        · exact hbits j hp
        · simp only [Bool.or_eq_false_iff] at hp
          unfold dstL at hd
          rw [hoj] at hd
          exact absurd hd (hitT_false hp.1 htu)
      · by_cases e : j = i
        · rw [e]; exact hLi
        · have hoj : ops.toList[j]? = some (ops.toList[j]'(by omega)) := List.getElem?_eq_getElem _
          obtain ⟨b', hb'⟩ := hAj j hj2
          have hp := hpair j _ b' hoj hb' i o ho (by omega)
          unfold pairOK at hp
          simp only [Bool.or_eq_true, Bool.not_eq_true'] at hp
          rcases hp with hp | hp
          · cases hl : listed.getD j false with
            | false => rfl
            | true => rw [hcl j b' _ hb' hoj hl i hp] at hLi; cases hLi
          · simp only [Bool.or_eq_false_iff] at hp
            unfold dstL at hd
            rw [hoj] at hd
            exact absurd hd (hitT_false hp.2.2.1 htu)
    -- of those that turn
    have heff : ∀ j o', ops.toList[j]? = some o' → isEff o' = true → isEff o = true → j ≠ i → (listed.getD j false = true ↔ j < i) := by
      intro j o' hoj he' he hji
      have hjl : j < ops.toList.length := (List.getElem?_eq_some_iff.1 hoj).1
      constructor
      · intro hl
        rcases Nat.lt_or_ge j i with hj | hj
        · exact hj
        · obtain ⟨b', hb'⟩ := hAj j hjl
          have hp := hpair j _ b' hoj hb' i o ho (by omega)
          unfold pairOK at hp
          simp only [he, he', Bool.or_eq_true, Bool.not_eq_true', Bool.and_self, Bool.or_true] at hp
          rcases hp with hp | hp
          · rw [hcl j b' _ hb' hoj hl i hp] at hLi; cases hLi
          · cases hp
      · intro hj
        have hp := hpair i o b ho hb j _ hoj hj
        unfold pairOK at hp
        simp only [he, he', Bool.or_eq_true, Bool.not_eq_true', Bool.and_self, Bool.or_true] at hp
        rcases hp with hp | hp
        · exact hbits j hp
        · cases hp
    have hqe : isEff o = true → q ≤ i ∧ Hp i = Hp q := by
      intro he
      have hqi : q ≤ i := by
        rcases Nat.lt_or_ge i q with h | h
        · have := (I.effs i o ho he).2 h; rw [hLi] at this; cases this
        · exact h
      refine ⟨hqi, Hp_same ht i hqi (by omega) fun j o' hj1 hj2 hoj => ?_⟩
      cases he' : isEff o' with
      | false => rfl
      | true =>
        have h5 := (heff j o' hoj he' he (by omega)).2 hj2
        have := (I.effs j o' hoj he').1 h5
        omega
    have hsize' : (listed.setIfInBounds i true).size = ops.size := by rw [Array.size_setIfInBounds]; exact I.size
    have hset : ∀ j, (listed.setIfInBounds i true).getD j false = if j = i then true else listed.getD j false := fun j => getD_set (by rw [I.size]; exact hsz)
    have hgo : ∀ (N2 : List Loc) (w' : World) (v' : Value), HR (M ++ N ++ N2) w0 (Hp (if isEff o = true then i + 1 else q)) w' → VR (M ++ N ++ N2) (V i) v' →
        wpAnyIn (FW ro') n P .any ops (PostC M w0 nn .normal ⟨T ops.toList.length, Hp ops.toList.length, ms⟩) fuel (listed.setIfInBounds i true) (a.put o.dst v') w' := by
      intro N2 w' v' hH hV
      obtain ⟨p1, p2⟩ := put_sound (I.frame.mono N2) o.dst hV
      refine ih _ _ _ ⟨if isEff o = true then i + 1 else q, N ++ N2, hsize', fun j o' hoj hl e he hbe => ?_, ?_, fun j o' hoj he' => ?_, ?_, ?_, ?_⟩ ?_
      · rw [hset] at hl ⊢
        by_cases ee : e.on = i
        · rw [if_pos ee]
        · rw [if_neg ee]
          by_cases ej : j = i
          · subst ej
            rw [ho] at hoj
            cases hoj
            exact h3' e he hbe
          · rw [if_neg ej] at hl
            exact I.edge j o' hoj hl e he hbe
      · by_cases he : isEff o = true
        · rw [if_pos he]; omega
        · rw [if_neg he]; exact I.hq
      · rw [hset]
        by_cases he : isEff o = true
        · rw [if_pos he]
          by_cases ej : j = i
          · rw [if_pos ej]; simp; omega
          · rw [if_neg ej, heff j o' hoj he' he ej]; omega
        · rw [if_neg he]
          by_cases ej : j = i
          · subst ej
            rw [ho] at hoj
            cases hoj
            exact absurd he' he
          · rw [if_neg ej]; exact I.effs j o' hoj he'
      · rw [← List.append_assoc]; exact hH
      · rw [← List.append_assoc]
        refine p1.ext fun t => ?_
        rw [get_putL, TL_ins (L := fun j => listed.getD j false) (i := i) hLi (by show _ = true; rw [hset, if_pos rfl]) (fun j hj => by show _ = listed.getD j false; rw [hset, if_neg hj]) t _ hil fun j hj1 hj2 hl => ?_]
        · unfold dstL; rw [ho]
        · have hoj : ops.toList[j]? = some (ops.toList[j]'hj2) := List.getElem?_eq_getElem _
          obtain ⟨b', hb'⟩ := hAj j hj2
          have hp := hpair j _ b' hoj hb' i o ho hj1
          unfold pairOK at hp
          simp only [Bool.or_eq_true, Bool.not_eq_true'] at hp
          rcases hp with hp | hp
          · have hl' : listed.getD j false = true := hl
            rw [hcl j b' _ hb' hoj hl' i hp] at hLi; cases hLi
          · simp only [Bool.or_eq_false_iff] at hp
            unfold dstL
            rw [ho, hoj]
            exact hp.2.1
      · rw [p2, ← List.append_assoc]; exact I.defers.mono N2
      · have := countP_ins (fun j => !listed.getD j false) (fun j => !(listed.setIfInBounds i true).getD j false) i (by show (!listed.getD i false) = true; rw [hLi]; rfl) (by show (!(listed.setIfInBounds i true).getD i false) = false; rw [hset, if_pos rfl]; rfl) (fun j hj => by show (!(listed.setIfInBounds i true).getD j false) = !listed.getD j false; rw [hset, if_neg hj]) ops.toList.length
        rw [if_pos hil] at this
        omega
    unfold wpOpIn
    rw [h2]
    simp only
    rw [wanted_eq I.frame, wanted_of_get huse]
    cases hw : wantedL ops.toList o (T i) with
    | false =>
      simp only [Bool.false_eq_true, if_false]
      obtain ⟨hv, hh⟩ := (ht i o ho).no hw
      refine ⟨fun _ _ => trivial, hgo [] w undef ?_ ?_⟩
      · rw [List.append_nil]
        by_cases he : isEff o = true
        · rw [if_pos he, hh, (hqe he).2]; exact I.heap
        · rw [if_neg he]; exact I.heap
      · rw [hv]; exact VR.undef _
    | true =>
      simp only [if_true]
      have hev := (ht i o ho).yes hw
      have hx : ∀ x ∈ o.op.operands.toList, opnd (T i) x = opnd (TL nn ops.toList (T 0) V (fun j => listed.getD j false) ops.toList.length) x := opnd_of_get fun t htt => (huse t (by unfold usesL; exact List.mem_append_right _ htt)).symm
      have key : evO P r o ⟨T i, Hp q, ms⟩ = some (V i, Hp (if isEff o = true then i + 1 else q)) := by
        by_cases he : isEff o = true
        · rw [if_pos he, ← (hqe he).2]; exact hev
        · rw [if_neg he]
          by_cases hc0 : cls o.op = 0
          · exact evO_in hc0 _ _ hev _
          · have hc2 : cls o.op ≠ 2 := fun e => by apply he; unfold isEff; rw [e]; rfl
            have hc1 : cls o.op = 1 := by
              have : cls o.op ≤ 2 := by
                generalize o.op = op
                unfold cls
                split <;> decide
              omega
            obtain ⟨bits, hb', hor⟩ := hrd i o ho hw hc1
            rw [hb] at hb'
            cases hb'
            have lo1 : loOf b ops.toList 0 ≤ cntE (ops.toList.take q) := lo_le fun j o' hoj he' hbj => by
              rw [Nat.zero_add] at hbj
              exact (I.effs j o' hoj he').1 (hbits j hbj)
            have hi1 : cntE (ops.toList.take q) ≤ hiOf i ops.toList A := le_hi hAlen fun j o' b' hoj hb' he' hj => by
              cases hbt : b'.testBit i with
              | false => rfl
              | true => rw [hcl j b' o' hb' hoj ((I.effs j o' hoj he').2 hj) i hbt] at hLi; cases hLi
            rcases hor with hor | hor
            · have lo2 : loOf b ops.toList 0 ≤ cntE (ops.toList.take i) := lo_le fun j o' hoj he' hbj => by
                rw [Nat.zero_add] at hbj
                exact anc_lt hanc hb ho hbj
              have hi2 : cntE (ops.toList.take i) ≤ hiOf i ops.toList A := le_hi hAlen fun j o' b' hoj hb' he' hj => by
                cases hbt : b'.testBit i with
                | false => rfl
                | true => have := anc_lt hanc hb' hoj hbt; omega
              have heq : cntE (ops.toList.take q) = cntE (ops.toList.take i) := by omega
              have hHp : Hp i = Hp q := by
                rcases Nat.le_total q i with hqi | hqi
                · exact Hp_same ht i hqi (by omega) (cntE_eq i hqi (by omega) heq)
                · exact (Hp_same ht q hqi I.hq (cntE_eq q hqi I.hq heq.symm)).symm
              have h9 : Hp (i + 1) = Hp i := evO_same hc2 hev
              rw [show some (V i, Hp q) = some (V i, Hp (i + 1)) by rw [h9, ← hHp], ← hHp]
              exact hev
            · have hmem : Hp q ∈ (([Hp 0] ++ ((List.range ops.toList.length).filter fun j => (ops.toList[j]?).any isEff).map (fun j => Hp (0 + j + 1))).drop (loOf b ops.toList 0)).take (Nat.succ (hiOf i ops.toList A) - loOf b ops.toList 0) := by
                apply List.mem_of_getElem? (i := cntE (ops.toList.take q) - loOf b ops.toList 0)
                rw [List.getElem?_take_of_lt (by omega), List.getElem?_drop, show loOf b ops.toList 0 + (cntE (ops.toList.take q) - loOf b ops.toList 0) = cntE (ops.toList.take q) by omega]
                exact hs_at ht q I.hq
              have h5 := rdAt_mem hor _ hmem
              unfold rdOne at h5
              simp only at h5
              cases h6 : evO P r o ⟨T i, Hp q, ms⟩ with
              | none => rw [h6] at h5; cases h5
              | some vh =>
                rw [h6] at h5
                simp only at h5
                have h7 := veq_eq h5
                have h8 : vh.2 = Hp q := evO_same hc2 h6
                obtain ⟨v1, v2⟩ := vh
                simp only at h7 h8
                rw [h7, h8]
      rw [evO_congr (tm' := TL nn ops.toList (T 0) V (fun j => listed.getD j false) ops.toList.length) (Hp q) ms ms hx] at key
      exact evO_sound hN hF hC (st := ⟨_, Hp q, ms⟩) key n ro' I.heap I.frame _ _ fun N2 w' v' r1 r2 => hgo N2 w' v' r1 r2

theorem region_sound {P : Program} (hN : ∀ fn ∈ P.funcs.toList, fn.name ≠ "runtime.NumGoroutine") (hmix : P.follows .mixedOrders = true) {r : Rec} (hF : SF P r) (hC : SC P r) {nn : Nat} {ops : Array Oper} {draw : Bool} {st st' : St} {M : List Loc} {w0 : Base} {w : World} {a : Act} {id : Nat}
    (he : evRegion P r nn ops.toList draw st = some st') (n : Nat) (ro' : Option Nat) (hA : AR M w0 nn st a w) : (Code.region id ops draw).wpIn (FW ro') n P (PostC M w0 nn .normal st') a w := by
  unfold evRegion at he
  cases draw with
  | false =>
    simp only [cnd_false] at he
    refine wpIn_region ?_
    rw [List.range_eq_range', show ops.size = ops.toList.length by simp]
    exact evOps_sound hN hF hC ops n ro' _ ops.toList 0 st M a w rfl he hA fun N a' w' h => ⟨rfl, N, h⟩
  | true =>
    simp only [cnd_true] at he
    cases hreg : regOK ops.toList with
    | none => rw [hreg] at he; cases he
    | some A =>
      rw [hreg] at he
      simp only at he
      cases htr : evTrace P r nn ops.toList ops.toList 0 st [st.h] [] with
      | none => rw [htr] at he; cases he
      | some p =>
        obtain ⟨s', hs, rs⟩ := p
        rw [htr] at he
        simp only at he
        cases hok : rdsOK P r ops.toList A st.ms hs rs with
        | false => rw [hok] at he; cases he
        | true =>
          rw [hok] at he
          simp only [cnd_true, Option.some.injEq] at he
          subst he
          obtain ⟨T, Hp, V, t1, t2, t3, t4, t5, _, t7⟩ := trace_spec ops.toList 0 st [st.h] [] s' hs rs htr
          have ht : ∀ j o, ops.toList[j]? = some o → Tr P r nn ops.toList st.ms T Hp V j o := fun j o ho => by
            have := t3 j o ho
            rwa [Nat.zero_add] at this
          rw [Nat.zero_add] at t4
          rw [t4]
          refine wpIn_region_any hmix ?_
          refine region_draw hN hF hC n ro' hreg ht (fun j o ho hw hc => ?_) _ _ _ _ ⟨0, [], by simp, ?_, by omega, ?_, ?_, ?_, ?_⟩ ?_
          · have hm := t7 j o ho (by rw [Nat.zero_add]; exact hw) hc
            obtain ⟨bits, b1, b2⟩ := rdsOK_mem hok _ hm
            simp only [Nat.zero_add] at b1 b2
            rw [t5, ← t2] at b2
            exact ⟨bits, b1, b2⟩
          · intro j o ho hl
            exfalso
            rw [Array.getD_eq_getD_getElem?] at hl
            rw [Array.getElem?_replicate] at hl
            split at hl <;> simp at hl
          · intro j o ho hl
            constructor
            · intro hl
              exfalso
              rw [Array.getD_eq_getD_getElem?] at hl
              rw [Array.getElem?_replicate] at hl
              split at hl <;> simp at hl
            · intro h; omega
          · rw [List.append_nil, t2]; exact hA.1.drawn _
          · rw [List.append_nil]
            have hno : ∀ k, TL nn ops.toList (T 0) V (fun j => (Array.replicate ops.size false).getD j false) k = T 0 := by
              intro k
              induction k with
              | zero => rfl
              | succ k ihk =>
                rw [TL, if_neg, ihk]
                rw [Array.getD_eq_getD_getElem?, Array.getElem?_replicate]
                split <;> simp
            rw [hno, t1]
            exact hA.2.1
          · rw [List.append_nil]; exact hA.2.2
          · refine Nat.le_trans List.countP_le_length ?_
            simp
end Go.Proofs.Ytmejkljlnlpoaaa.EV
