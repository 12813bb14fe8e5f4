/- EV, part 8: regions, those that draw their order too. -/
import Derived.Test.YtddgcakiceodgaaGreatM5
namespace Go.Proofs.YtddgcakiceodgaaGreat.EV
set_option linter.unusedVariables false
set_option linter.unusedSimpArgs false
open Go Go.RowKit

section
variable {P : Program} {r : Rec}

/-! ### what an operation looks at -/
theorem opnds_congr {tm tm' : Fr} : ∀ {l : List Operand}, (∀ x ∈ l, opnd tm x = opnd tm' x) → opnds tm l = opnds tm' l
 | [], _ => rfl
 | x :: l, h => by simp only [opnds, h x (List.mem_cons_self ..), opnds_congr fun y hy => h y (List.mem_cons_of_mem _ hy)]
theorem parts_congr {tm tm' : Fr} : ∀ {l : List (Nat × Operand)}, (∀ x ∈ l.map (·.2), opnd tm x = opnd tm' x) → partsL tm l = partsL tm' l
 | [], _ => rfl
 | (i, x) :: l, h => by simp only [partsL, h x (by simp), parts_congr fun y hy => h y (by simp at hy ⊢; exact .inr hy)]
theorem optOpnd_congr {tm tm' : Fr} {x : Option Operand} (h : ∀ y ∈ x.toList, opnd tm y = opnd tm' y) : optOpnd tm x = optOpnd tm' x := by
 cases x with
 | none => rfl
 | some x => simp only [optOpnd, h x (by simp)]
theorem evOp_congr {tm tm' : Fr} (h : Heap) {op : Op} (hx : ∀ x ∈ op.operands.toList, opnd tm x = opnd tm' x) : evOp P tm h op = evOp P tm' h op := by
 cases op with
 | move x => simp only [evOp, evMove, hx x (by simp [Op.operands])]
 | assign x => simp only [evOp, evMove, hx x (by simp [Op.operands])]
 | pick c a b => simp only [evOp, evPick, hx c (by simp [Op.operands]), hx a (by simp [Op.operands]), hx b (by simp [Op.operands])]
 | alloc e => rfl
 | box e x => simp only [evOp, evBox, hx x (by simp [Op.operands])]
 | build t ps => simp only [evOp, evBuild, parts_congr (l := ps.toList) fun x hh => hx x (by simpa [Op.operands] using hh)]
 | buildSlice t len ps => simp only [evOp, evBuildSlice, parts_congr (l := ps.toList) fun x hh => hx x (by simpa [Op.operands] using hh)]
 | load t a => simp only [evOp, evLoad, hx a (by simp [Op.operands])]
 | store t a x => simp only [evOp, evStore, hx a (by simp [Op.operands]), hx x (by simp [Op.operands])]
 | nilCheck x => simp only [evOp, evNilCheck, hx x (by simp [Op.operands])]
 | binOp op t x y yt => simp only [evOp, evBinOp, hx x (by simp [Op.operands]), hx y (by simp [Op.operands])]
 | unOp op t x => simp only [evOp, evUnOp, hx x (by simp [Op.operands])]
 | convert s d x => simp only [evOp, evConvert, hx x (by simp [Op.operands])]
 | makeFunc fn a c =>
  cases fn <;> simp only [evOp, evMakeFunc]
  rw [opnds_congr (l := a.toList) fun x hh => hx x (by simp only [Op.operands, Array.toList_append, List.mem_append]; exact .inl hh), opnds_congr (l := c.toList) fun x hh => hx x (by simp only [Op.operands, Array.toList_append, List.mem_append]; exact .inr hh)]
 | makeMap t r => rfl
 | makeSlice t l c => simp only [evOp, evMakeSlice, hx l (by simp [Op.operands]), hx c (by simp [Op.operands])]
 | slice t x lo hi mx =>
  simp only [evOp, evSlice, hx x (by simp [Op.operands])]
  rw [optOpnd_congr (x := lo) fun y hy => hx y (by simp [Op.operands] at hy ⊢; simp [hy]), optOpnd_congr (x := hi) fun y hy => hx y (by simp [Op.operands] at hy ⊢; simp [hy]), optOpnd_congr (x := mx) fun y hy => hx y (by simp [Op.operands] at hy ⊢; simp [hy])]
 | fieldAddr t x f => simp only [evOp, evFieldAddr, hx x (by simp [Op.operands])]
 | field t x f => simp only [evOp, evField, hx x (by simp [Op.operands])]
 | indexAddr t x ix => simp only [evOp, evIndexAddr, hx x (by simp [Op.operands]), hx ix (by simp [Op.operands])]
 | index t x ix => simp only [evOp, evIndex, hx x (by simp [Op.operands]), hx ix (by simp [Op.operands])]
 | lookup t m k ok => simp only [evOp, evLookup, hx m (by simp [Op.operands]), hx k (by simp [Op.operands])]
 | mapUpdate t m k x => simp only [evOp, evMapUpdate, hx m (by simp [Op.operands]), hx k (by simp [Op.operands]), hx x (by simp [Op.operands])]
 | insert t m k x => simp only [evOp, evMapUpdate, hx m (by simp [Op.operands]), hx k (by simp [Op.operands]), hx x (by simp [Op.operands])]
 | mapEntry t m k => simp only [evOp, evMapEntry, hx m (by simp [Op.operands]), hx k (by simp [Op.operands])]
 | entryStore t m s x => simp only [evOp, evEntryStore, hx m (by simp [Op.operands]), hx s (by simp [Op.operands]), hx x (by simp [Op.operands])]
 | extract x i => simp only [evOp, evExtract, hx x (by simp [Op.operands])]
 | makeInterface t x => simp only [evOp, evMakeInterface, hx x (by simp [Op.operands])]
 | _ => rfl
theorem evO_op {o : Oper} {st : St} (hc : ¬ ∃ c, o.op = .call c) : evO P r o st = evOp P st.tm st.h o.op := by
 unfold evO
 split
 ·rename_i c hop; exact absurd (Exists.intro c hop) hc
 ·rfl
theorem evO_congr {tm tm' : Fr} (h : Heap) (ms ms' : List Nat) {o : Oper} (hx : ∀ x ∈ o.op.operands.toList, opnd tm x = opnd tm' x) : evO P r o ⟨tm, h, ms⟩ = evO P r o ⟨tm', h, ms'⟩ := by
 by_cases hc : ∃ c, o.op = .call c
 ·obtain ⟨c, hop⟩ := hc
  rw [hop] at hx
  unfold evO
  rw [hop]
  simp only [evCall]
  have h1 : opnds tm c.args.toList = opnds tm' c.args.toList := opnds_congr fun x hh => hx x (by simp only [Op.operands, Call.operands, Array.toList_append, List.mem_append]; exact .inr hh)
  rw [h1]
  cases hcal : c.callee with
  | builtin b => rfl
  | value f =>
   have h2 : opnd tm f = opnd tm' f := hx f (by simp [Op.operands, Call.operands, hcal])
   simp only [h2]
  | invoke x m =>
   have h2 : opnd tm x = opnd tm' x := hx x (by simp [Op.operands, Call.operands, hcal])
   simp only [h2]
 ·rw [evO_op hc, evO_op hc]
  exact evOp_congr h hx

/-! ### those that turn nothing -/
theorem keep {α β γ : Type} {x : Option α} {f : α → Option (β × γ)} {g : γ} {u : β × γ} (h : ob x f = some u) (hf : ∀ a u, f a = some u → u.2 = g) : u.2 = g := by
 obtain ⟨a, _, h2⟩ := ob_inv h
 exact hf a u h2
theorem keepg {β γ : Type} {b : Bool} {x : Option (β × γ)} {g : γ} {u : β × γ} (h : gd b x = some u) (hf : ∀ u, x = some u → u.2 = g) : u.2 = g := hf u (gd_inv h).2
theorem keeps {β γ : Type} {v : β} {g : γ} {u : β × γ} (h : some (v, g) = some u) : u.2 = g := by cases h; rfl
theorem evOp_same {tm : Fr} {h : Heap} {op : Op} {u : Value × Heap} (hc : cls P op < 2) (he : evOp P tm h op = some u) : u.2 = h := by
 cases op with
 | move x => exact keep he fun _ _ h => keeps h
 | assign x => exact keep he fun _ _ h => keeps h
 | pick c a b => exact keep he fun _ _ h => keep h fun _ _ h => keep h fun _ _ h => keep h fun _ _ h => keeps h
 | build t ps =>
  refine keep he fun _ _ h => keep h fun _ _ h => keep h fun d _ h => ?_
  cases d <;> first | cases h | exact keep h fun _ _ h => keep h fun _ _ h => keeps h
 | load t a => exact keep he fun _ _ h => keep h fun _ _ h => keep h fun _ _ h => keeps h
 | nilCheck x => exact keep he fun _ _ h => keepg h fun _ h => keeps h
 | binOp op t x y yt => exact keep he fun _ _ h => keep h fun _ _ h => keep h fun _ _ h => keeps h
 | unOp op t x => exact keep he fun _ _ h => keepg h fun _ h => keep h fun _ _ h => keepg h fun _ h => keeps h
 | makeFunc fn a c => cases fn <;> first | cases he | exact keep he fun _ _ h => keep h fun _ _ h => keeps h
 | slice t x lo hi mx =>
  refine keep he fun v _ h => keep h fun _ _ h => keep h fun _ _ h => keep h fun _ _ h => keep h fun d _ h => ?_
  cases v with
  | string s => exact keepg h fun _ h => keep h fun _ _ h => keeps h
  | slice a n c2 =>
   refine keep h fun _ _ h => keep h fun _ _ h => keep h fun _ _ h => ?_
   cases a with
   | none => exact keeps h
   | some a =>
    obtain ⟨b, o, sp⟩ := a
    cases sp with
    | some _ => cases h
    | none =>
     simp only [evCutSl] at h
     cases hq : (_ || Nat.beq (c2 % 2) 1) with
     | true => rw [hq] at h; exact keeps h
     | false => rw [hq] at h; exact keep h fun _ _ h => keepg h fun _ h => keeps h
  | pointer a =>
   cases a with
   | none => cases h
   | some a =>
    obtain ⟨b, o, sp⟩ := a
    cases sp with
    | some _ => cases h
    | none =>
     cases d with
     | array n e => exact keep h fun _ _ h => keep h fun _ _ h => keeps h
     | pointer arr => exact keep h fun _ _ h => keep h fun _ _ h => keep h fun _ _ h => keep h fun _ _ h => keeps h
     | _ => cases h
  | _ => cases h
 | fieldAddr t x f => exact keep he fun _ _ h => keep h fun _ _ h => keep h fun _ _ h => keep h fun _ _ h => keep h fun _ _ h => keep h fun _ _ h => keepg h fun _ h => keeps h
 | field t x f => exact keep he fun _ _ h => keep h fun _ _ h => keep h fun _ _ h => keep h fun _ _ h => keep h fun _ _ h => keep h fun _ _ h => keeps h
 | indexAddr t x ix =>
  refine keep he fun v _ h => keep h fun _ _ h => keep h fun _ _ h => keep h fun d _ h => ?_
  cases v with
  | pointer a =>
   cases a with
   | none => cases h
   | some a =>
    obtain ⟨b, o, sp⟩ := a
    cases sp with
    | some _ => cases h
    | none => exact keep h fun _ _ h => keep h fun _ _ h => keepg h fun _ h => keeps h
  | slice a n c =>
   cases a with
   | none => cases h
   | some a =>
    obtain ⟨b, o, sp⟩ := a
    cases sp with
    | some _ => cases h
    | none => exact keep h fun _ _ h => keep h fun _ _ h => keepg h fun _ h => keeps h
  | _ => cases h
 | index t x ix =>
  refine keep he fun v _ h => keep h fun _ _ h => keep h fun _ _ h => keep h fun d _ h => ?_
  cases v with
  | agg cs => exact keep h fun _ _ h => keep h fun _ _ h => keepg h fun _ h => keep h fun _ _ h => keeps h
  | string s => exact keepg h fun _ h => keep h fun _ _ h => keeps h
  | _ => cases h
 | lookup t m k ok => exact keep he fun _ _ h => keep h fun _ _ h => keep h fun _ _ h => keep h fun _ _ h => keep h fun _ _ h => keep h fun _ _ h => keep h fun _ _ h => keepg h fun _ h => keep h fun _ _ h => keep h fun _ _ h => keep h fun _ _ h => keeps h
 | extract x i => exact keep he fun _ _ h => keep h fun _ _ h => keep h fun _ _ h => keeps h
 | makeInterface t x => exact keep he fun _ _ h => keep h fun _ _ h => keepg h fun _ h => keeps h
 | convert s d x =>
  obtain ⟨v, h1, he⟩ := ob_inv he
  have hc' : clsConv (P.underlying s) (P.underlying d) < 2 := hc
  cases v with
  | int k n => exact keep he fun _ _ h => keepg h fun _ h => keeps h
  | string str =>
   obtain ⟨sd, q1, he⟩ := ob_inv he
   obtain ⟨dd, q2, he⟩ := ob_inv he
   obtain ⟨g1, he⟩ := gd_inv he
   rw [q1, q2, isStrD_inv g1] at hc'
   cases hd : isStrD dd with
   | true => rw [hd] at he; exact keeps he
   | false =>
    cases dd <;> first | (cases hd; done) | (simp [clsConv] at hc'; done)
  | slice a n c2 =>
   obtain ⟨sd, q1, he⟩ := ob_inv he
   obtain ⟨e, q2, he⟩ := ob_inv he
   obtain ⟨dd, q3, he⟩ := ob_inv he
   cases hd : isStrD dd with
   | true => rw [hd] at he; exact keep he fun _ _ h => keepg h fun _ h => keep h fun _ _ h => keeps h
   | false =>
    rw [q1, q3, sliceE_inv q2] at hc'
    cases dd <;> first | (cases hd; done) | (simp [clsConv] at hc'; done)
  | _ => cases he
 | call c => cases he
 | _ => first | cases he | exact absurd (show (2 : Nat) < 2 from hc) (by decide) | exact absurd (show (3 : Nat) < 2 from hc) (by decide)

/-! ### those that do not even look -/
noncomputable def In (F : Heap → VH) : Prop := ∀ h u, F h = some u → ∀ h2, F h2 = some (u.1, h2)
theorem In.ob {α : Type} {x : Option α} {f : α → Heap → VH} (hf : ∀ a, In (f a)) : In (fun h => EV.ob x fun a => f a h) := by
 intro h u he h2
 obtain ⟨a, h1, h3⟩ := ob_inv he
 show EV.ob x (fun a => f a h2) = _
 rw [h1]
 exact hf a h u h3 h2
theorem In.gd {b : Bool} {f : Heap → VH} (hf : In f) : In (fun h => EV.gd b (f h)) := by
 intro h u he h2
 obtain ⟨h1, h3⟩ := gd_inv he
 show EV.gd b (f h2) = _
 rw [h1]
 exact hf h u h3 h2
theorem In.ret {v : Value} : In (fun h => some (v, h)) := by
 intro h u he h2
 cases he
 rfl
theorem In.none : In (fun _ => none) := fun h u he => by cases he
theorem evOp_in {tm : Fr} {op : Op} (hc : cls P op = 0) : In (fun h => evOp P tm h op) := by
 cases op with
 | move x => exact In.ob fun _ => In.ret
 | assign x => exact In.ob fun _ => In.ret
 | pick c a b => exact In.ob fun _ => In.ob fun _ => In.ob fun _ => In.ob fun _ => In.ret
 | build t ps =>
  refine In.ob fun _ => In.ob fun _ => In.ob fun d => ?_
  cases d <;> first | exact In.none | exact In.ob fun _ => In.ob fun _ => In.ret
 | nilCheck x => exact In.ob fun _ => In.gd In.ret
 | binOp op t x y yt => exact In.ob fun _ => In.ob fun _ => In.ob fun _ => In.ret
 | unOp op t x => exact In.ob fun _ => In.gd (In.ob fun _ => In.gd In.ret)
 | makeFunc fn a c => cases fn <;> first | exact In.none | exact In.ob fun _ => In.ob fun _ => In.ret
 | fieldAddr t x f => exact In.ob fun _ => In.ob fun _ => In.ob fun _ => In.ob fun _ => In.ob fun _ => In.ob fun _ => In.gd In.ret
 | field t x f => exact In.ob fun _ => In.ob fun _ => In.ob fun _ => In.ob fun _ => In.ob fun _ => In.ob fun _ => In.ret
 | indexAddr t x ix =>
  refine In.ob fun v => In.ob fun _ => In.ob fun _ => In.ob fun d => ?_
  cases v with
  | pointer a =>
   cases a with
   | none => exact In.none
   | some a =>
    obtain ⟨b, o, sp⟩ := a
    cases sp with
    | some _ => exact In.none
    | none => exact In.ob fun _ => In.ob fun _ => In.gd In.ret
  | slice a n c =>
   cases a with
   | none => exact In.none
   | some a =>
    obtain ⟨b, o, sp⟩ := a
    cases sp with
    | some _ => exact In.none
    | none => exact In.ob fun _ => In.ob fun _ => In.gd In.ret
  | _ => exact In.none
 | index t x ix =>
  refine In.ob fun v => In.ob fun _ => In.ob fun _ => In.ob fun d => ?_
  cases v with
  | agg cs => exact In.ob fun _ => In.ob fun _ => In.gd (In.ob fun _ => In.ret)
  | string s => exact In.gd (In.ob fun _ => In.ret)
  | _ => exact In.none
 | extract x i => exact In.ob fun _ => In.ob fun _ => In.ob fun _ => In.ret
 | makeInterface t x => exact In.ob fun _ => In.ob fun _ => In.gd In.ret
 | convert s d x =>
  have hc' : clsConv (P.underlying s) (P.underlying d) = 0 := hc
  refine In.ob fun v => ?_
  cases v with
  | int k n => exact In.ob fun _ => In.gd In.ret
  | string str =>
   intro h u he h2
   obtain ⟨sd, q1, he⟩ := ob_inv he
   obtain ⟨dd, q2, he⟩ := ob_inv he
   obtain ⟨g1, he⟩ := gd_inv he
   rw [q1, q2, isStrD_inv g1] at hc'
   cases hd : isStrD dd with
   | true =>
    rw [hd] at he
    cases he
    show ob (P.underlying s) _ = _
    rw [q1]
    show ob (P.underlying d) _ = _
    rw [q2]
    show gd (isStrD sd) (cnd (isStrD dd) _ _) = _
    rw [g1, hd]
    rfl
   | false =>
    cases dd <;> first | (cases hd; done) | (simp [clsConv] at hc'; done)
  | slice a n c2 =>
   intro h u he h2
   obtain ⟨sd, q1, he⟩ := ob_inv he
   obtain ⟨e, q2, he⟩ := ob_inv he
   rw [q1, sliceE_inv q2] at hc'
   exfalso
   revert hc'
   generalize P.underlying d = y
   intro hc'
   cases y with
   | none => cases hc'
   | some y => cases y <;> cases hc'
  | _ => exact In.none
 | _ => first | exact In.none | (cases hc; done) | (simp [cls] at hc; done) | (exfalso; revert hc; simp only [cls]; split <;> simp)
theorem cls_call {c : Call} : cls P (.call c) = (match c.callee with | .builtin .len => 1 | .builtin .cap | .builtin .max | .builtin .min => 0 | _ => 2) := by
 obtain ⟨ce, cas, ts⟩ := c
 cases ce with
 | builtin b => cases b <;> rfl
 | value f => rfl
 | invoke _ _ => rfl
theorem evO_same {o : Oper} {st : St} {u : Value × Heap} (hc : cls P o.op < 2) (he : evO P r o st = some u) : u.2 = st.h := by
 by_cases hcall : ∃ c, o.op = .call c
 ·obtain ⟨c, hop⟩ := hcall
  rw [hop, cls_call] at hc
  unfold evO at he
  rw [hop] at he
  obtain ⟨args, _, he⟩ := ob_inv he
  cases hcal : c.callee with
  | value f => rw [hcal] at hc; exact absurd (show (2 : Nat) < 2 from hc) (by decide)
  | invoke _ _ => rw [hcal] at hc; exact absurd (show (2 : Nat) < 2 from hc) (by decide)
  | builtin b =>
   rw [hcal] at he hc
   simp only at he
   unfold evBuiltin at he
   split at he <;> first | exact absurd (show (2 : Nat) < 2 from hc) (by decide) | cases he | exact keep he fun _ _ h => keep h fun _ _ h => keeps h | exact keep he fun _ _ h => keep h fun _ _ h => keep h fun _ _ h => keeps h
 ·rw [evO_op hcall] at he
  exact evOp_same hc he
theorem evO_in {o : Oper} {tm : Fr} {ms : List Nat} (hc : cls P o.op = 0) : In (fun h => evO P r o ⟨tm, h, ms⟩) := by
 by_cases hcall : ∃ c, o.op = .call c
 ·obtain ⟨c, hop⟩ := hcall
  rw [hop, cls_call] at hc
  intro h u he h2
  unfold evO at he ⊢
  rw [hop] at he ⊢
  obtain ⟨args, e1, he⟩ := ob_inv he
  simp only [evCall]
  rw [show opnds tm c.args.toList = some args from e1]
  show (match c.callee with | .builtin b => evBuiltin P h2 b c.argTypes.toList args | .value f => EV.ob (opnd tm f) fun f => evCallV r h2 args f | .invoke x m => EV.ob (opnd tm x) fun v => evInvV P r h2 args m v) = _
  cases hcal : c.callee with
  | value f => rw [hcal] at hc; cases hc
  | invoke _ _ => rw [hcal] at hc; cases hc
  | builtin b =>
   rw [hcal] at he hc
   simp only at he ⊢
   unfold evBuiltin at he ⊢
   split at he <;> first | cases hc | cases he | skip
   ·exact (In.ob fun _ => In.ob fun _ => In.ob fun _ => In.ret) h u he h2
   ·exact (In.ob fun _ => In.ob fun _ => In.ret) h u he h2
   ·exact (In.ob fun _ => In.ob fun _ => In.ret) h u he h2
 ·intro h u he h2
  have he' : evO P r o ⟨tm, h, ms⟩ = some u := he
  show evO P r o ⟨tm, h2, ms⟩ = _
  rw [evO_op hcall] at he' ⊢
  exact evOp_in hc h u he' h2
end

/-! ### the trace of a region in the text's order -/
structure Tr (P : Program) (r : Rec) (nn : Nat) (all : List Oper) (ms : List Nat) (T : Nat → Fr) (Hp : Nat → Heap) (V : Nat → Value) (i : Nat) (o : Oper) : Prop where
 no : wantedL all o (T i) = false → V i = undef ∧ Hp (i + 1) = Hp i
 yes : wantedL all o (T i) = true → evO P r o ⟨T i, Hp i, ms⟩ = some (V i, Hp (i + 1))
 next : T (i + 1) = putL nn (T i) o.dst (V i)

theorem trace_spec {P : Program} {r : Rec} {nn : Nat} {all : List Oper} : ∀ (l : List (Nat × Oper)) (i : Nat) (st : St) (hs : List Heap) (rs : List Rd) (st' : St) (hs' : List Heap) (rs' : List Rd), evTrace P r nn all l st hs rs = some (st', hs', rs') →
  ∃ (T : Nat → Fr) (Hp : Nat → Heap) (V : Nat → Value), T i = st.tm ∧ Hp i = st.h ∧ (∀ j x, l[j]? = some x → Tr P r nn all st.ms T Hp V (i + j) x.2) ∧ st' = ⟨T (i + l.length), Hp (i + l.length), st.ms⟩ ∧
   hs' = hs ++ ((List.range l.length).filter fun j => (l[j]?).any fun x => isChg P x.2).map (fun j => Hp (i + j + 1)) ∧ (∀ x ∈ rs, x ∈ rs') ∧ (∀ j x, l[j]? = some x → wantedL all x.2 (T (i + j)) = true → cls P x.2.op = 1 → (⟨x.1, x.2, T (i + j), V (i + j)⟩ : Rd) ∈ rs')
 | [], i, st, hs, rs, st', hs', rs', h => by
  simp only [evTrace, Option.some.injEq, Prod.mk.injEq] at h
  obtain ⟨rfl, rfl, rfl⟩ := h
  exact ⟨fun _ => st.tm, fun _ => st.h, fun _ => undef, rfl, rfl, (fun j o h => by simp at h), rfl, by simp, fun _ h => h, (fun j o h => by simp at h)⟩
 | o :: l, i, st, hs, rs, st', hs', rs', h => by
  simp only [evTrace] at h
  have go : ∀ (v : Value) (h1 : Heap) (rs1 : List Rd), evTrace P r nn all l ⟨putL nn st.tm o.2.dst v, h1, st.ms⟩ (cnd (isChg P o.2) (hs ++ [h1]) hs) rs1 = some (st', hs', rs') →
    (wantedL all o.2 st.tm = false → v = undef ∧ h1 = st.h) → (wantedL all o.2 st.tm = true → evO P r o.2 st = some (v, h1)) → (∀ x ∈ rs, x ∈ rs1) → (wantedL all o.2 st.tm = true → cls P o.2.op = 1 → (⟨o.1, o.2, st.tm, v⟩ : Rd) ∈ rs1) →
    ∃ (T : Nat → Fr) (Hp : Nat → Heap) (V : Nat → Value), T i = st.tm ∧ Hp i = st.h ∧ (∀ j o', (o :: l)[j]? = some o' → Tr P r nn all st.ms T Hp V (i + j) o'.2) ∧ st' = ⟨T (i + (o :: l).length), Hp (i + (o :: l).length), st.ms⟩ ∧
     hs' = hs ++ ((List.range (o :: l).length).filter fun j => ((o :: l)[j]?).any fun x => isChg P x.2).map (fun j => Hp (i + j + 1)) ∧ (∀ x ∈ rs, x ∈ rs') ∧ (∀ j o', (o :: l)[j]? = some o' → wantedL all o'.2 (T (i + j)) = true → cls P o'.2.op = 1 → (⟨o'.1, o'.2, T (i + j), V (i + j)⟩ : Rd) ∈ rs') := by
   intro v h1 rs1 hgo hno hyes hrs hrd
   obtain ⟨T, Hp, V, t1, t2, t3, t4, t5, t6, t7⟩ := trace_spec l (i + 1) _ _ _ _ _ _ hgo
   refine ⟨fun k => if k ≤ i then st.tm else T k, fun k => if k ≤ i then st.h else Hp k, fun k => if k ≤ i then v else V k, by simp, by simp, fun j o' hj => ?_, ?_, ?_, fun x hx => t6 x (hrs x hx), fun j o' hj hw hc => ?_⟩
   ·cases j with
    | zero =>
     simp only [List.getElem?_cons_zero, Option.some.injEq] at hj
     subst hj
     simp only [Nat.add_zero]
     refine ⟨fun hw => ?_, fun hw => ?_, ?_⟩
     ·simp only [Nat.le_refl, if_true, show ¬ i + 1 ≤ i by omega, if_false] at hw ⊢
      rw [t2]; exact hno hw
     ·simp only [Nat.le_refl, if_true, show ¬ i + 1 ≤ i by omega, if_false] at hw ⊢
      rw [t2]; exact hyes hw
     ·simp only [Nat.le_refl, if_true, show ¬ i + 1 ≤ i by omega, if_false]
      exact t1
    | succ j =>
     have h3 := t3 j o' (by simpa using hj)
     have e1 : ¬ i + (j + 1) ≤ i := by omega
     have e2 : ¬ i + (j + 1) + 1 ≤ i := by omega
     have e3 : i + 1 + j = i + (j + 1) := by omega
     rw [e3] at h3
     refine ⟨fun hw => ?_, fun hw => ?_, ?_⟩
     ·simp only [e1, e2, if_false] at hw ⊢; exact h3.no hw
     ·simp only [e1, e2, if_false] at hw ⊢; exact h3.yes hw
     ·simp only [e1, e2, if_false]; exact h3.next
   ·have e1 : ¬ i + (o :: l).length ≤ i := by simp
    simp only [e1, if_false]
    rw [t4]
    have : i + 1 + l.length = i + (o :: l).length := by simp; omega
    rw [this]
   ·rw [t5]
    have hr : (List.range (o :: l).length) = 0 :: (List.range l.length).map (· + 1) := by rw [List.length_cons, List.range_succ_eq_map]
    have hf : ((List.range l.length).map (· + 1)).filter (fun j => ((o :: l)[j]?).any fun x => isChg P x.2) = ((List.range l.length).filter fun j => (l[j]?).any fun x => isChg P x.2).map (· + 1) := by
     rw [List.filter_map]
     rfl
    rw [hr, List.filter_cons]
    simp only [List.getElem?_cons_zero, Option.any_some]
    rw [hf]
    by_cases hc : isChg P o.2 = true
    ·rw [if_pos hc, hc]
     simp only [cnd_true, List.map_cons, Nat.add_zero, show ¬ i + 1 ≤ i by omega, if_false, List.map_map, List.append_assoc, List.singleton_append, t2]
     congr 2
     apply List.map_congr_left
     intro j _
     simp only [Function.comp_apply, show ¬ i + (j + 1) + 1 ≤ i by omega, if_false]
     congr 1; omega
    ·have hc' : isChg P o.2 = false := by simpa using hc
     rw [if_neg hc, hc']
     simp only [cnd_false, List.map_map]
     congr 1
     apply List.map_congr_left
     intro j _
     simp only [Function.comp_apply, show ¬ i + (j + 1) + 1 ≤ i by omega, if_false]
     congr 1; omega
   ·cases j with
    | zero =>
     simp only [List.getElem?_cons_zero, Option.some.injEq] at hj
     subst hj
     simp only [Nat.add_zero, Nat.le_refl, if_true] at hw ⊢
     exact t6 _ (hrd hw hc)
    | succ j =>
     have e1 : ¬ i + (j + 1) ≤ i := by omega
     have e3 : i + 1 + j = i + (j + 1) := by omega
     simp only [e1, if_false] at hw ⊢
     have h3 := t7 j o' (by simpa using hj)
     rw [e3] at h3
     exact h3 hw hc
  cases hw : wantedL all o.2 st.tm with
  | true =>
   rw [hw] at h
   simp only [cnd_true] at h
   obtain ⟨vh, h1, h⟩ := ob_inv h
   refine go vh.1 vh.2 _ h (fun q => by rw [hw] at q; cases q) (fun _ => h1) (fun x hx => ?_) (fun _ hc => ?_)
   ·cases Nat.beq (cls P o.2.op) 1 with
    | true => simp only [cnd_true]; exact List.mem_append_left _ hx
    | false => exact hx
   ·rw [hc]; simp
  | false =>
   rw [hw] at h
   simp only [cnd_false] at h
   exact go undef st.h _ h (fun _ => ⟨rfl, rfl⟩) (fun q => by rw [hw] at q; cases q) (fun x hx => hx) (fun q => by rw [hw] at q; cases q)

/-! ### who comes ahead of whom -/
theorem edgeBits_spec {acc : List Nat} {i : Nat} : ∀ {es : List Edge} {b : Nat}, edgeBits acc i es = some b → (∀ e ∈ es, Region.binds .any e = true → e.on < i ∧ b.testBit e.on = true) ∧
  ∀ j, b.testBit j = true → ∃ e ∈ es, Region.binds .any e = true ∧ (j = e.on ∨ (acc.getD e.on 0).testBit j = true)
 | [], b, h => by
  cases h
  exact ⟨fun e he => by simp at he, fun j hj => by simp at hj⟩
 | e :: es, b, h => by
  simp only [edgeBits] at h
  cases hb : Region.binds .any e with
  | false =>
   rw [hb] at h
   simp only [cnd_false] at h
   obtain ⟨h1, h2⟩ := edgeBits_spec h
   refine ⟨fun e' he' hb' => ?_, fun j hj => let ⟨e', a, b, c⟩ := h2 j hj; ⟨e', List.mem_cons_of_mem _ a, b, c⟩⟩
   rcases List.mem_cons.1 he' with rfl | he'
   ·rw [hb] at hb'; cases hb'
   ·exact h1 e' he' hb'
  | true =>
   rw [hb] at h
   simp only [cnd_true] at h
   cases hlt : Nat.blt e.on i with
   | false => rw [hlt] at h; cases h
   | true =>
    rw [hlt] at h
    simp only [cnd_true] at h
    have hlt' : e.on < i := Nat.le_of_ble_eq_true hlt
    cases h1 : edgeBits acc i es with
    | none => rw [h1] at h; cases h
    | some b1 =>
     rw [h1] at h
     simp only [Option.some.injEq] at h
     obtain ⟨h2, h3⟩ := edgeBits_spec h1
     have hbit : ∀ j, b.testBit j = ((b1.testBit j || decide (e.on = j)) || (acc.getD e.on 0).testBit j) := fun j => by
      rw [← h]
      show ((b1 ||| 2 ^ e.on) ||| acc.getD e.on 0).testBit j = _
      rw [Nat.testBit_or, Nat.testBit_or, Nat.testBit_two_pow]
     refine ⟨fun e' he' hb' => ?_, fun j hj => ?_⟩
     ·rcases List.mem_cons.1 he' with rfl | he'
      ·exact ⟨hlt', by rw [hbit]; simp⟩
      ·obtain ⟨q1, q2⟩ := h2 e' he' hb'
       exact ⟨q1, by rw [hbit, q2]; rfl⟩
     ·rw [hbit] at hj
      simp only [Bool.or_eq_true, decide_eq_true_eq] at hj
      rcases hj with (hj | hj) | hj
      ·obtain ⟨e', a, b, c⟩ := h3 j hj; exact ⟨e', List.mem_cons_of_mem _ a, b, c⟩
      ·exact ⟨e, List.mem_cons_self .., hb, .inl hj.symm⟩
      ·exact ⟨e, List.mem_cons_self .., hb, .inr hj⟩
theorem ancGo_spec : ∀ {l : List Oper} {i : Nat} {acc A : List Nat}, acc.length = i → ancGo l i acc = some A → A.length = i + l.length ∧ (∀ j, j < i → A[j]? = acc[j]?) ∧ ∀ j o, l[j]? = some o → ∃ b acc', A[i + j]? = some b ∧ edgeBits acc' (i + j) o.after.toList = some b ∧ ∀ q, q < i + j → acc'[q]? = A[q]?
 | [], i, acc, A, hl, h => by cases h; exact ⟨by simpa using hl, fun _ _ => rfl, fun j o hj => by simp at hj⟩
 | o :: l, i, acc, A, hl, h => by
  simp only [ancGo] at h
  cases h1 : edgeBits acc i o.after.toList with
  | none => rw [h1] at h; cases h
  | some b =>
   rw [h1] at h
   simp only at h
   obtain ⟨q1, q2, q3⟩ := ancGo_spec (i := i + 1) (acc := acc ++ [b]) (by simp [hl]) h
   have hAi : A[i]? = some b := by rw [q2 i (by omega), List.getElem?_append_right (by omega)]; simp [hl]
   have hAl : ∀ j, j < i → A[j]? = acc[j]? := fun j hj => by rw [q2 j (by omega), List.getElem?_append_left (by omega)]
   refine ⟨by rw [q1]; simp; omega, hAl, fun j o' hj => ?_⟩
   cases j with
   | zero =>
    simp only [List.getElem?_cons_zero, Option.some.injEq] at hj
    subst hj
    exact ⟨b, acc, hAi, h1, fun q hq => (hAl q (by omega)).symm⟩
   | succ j =>
    obtain ⟨b', acc', r1, r2, r3⟩ := q3 j o' (by simpa using hj)
    have e : i + 1 + j = i + (j + 1) := by omega
    rw [e] at r1 r2 r3
    exact ⟨b', acc', r1, r2, r3⟩
/-! ### the order that is gone through -/
noncomputable def enumL : List Oper → Nat → List (Nat × Oper)
 | [], _ => []
 | o :: l, i => (i, o) :: enumL l (i + 1)
theorem canGo_perm {P : Program} {A : List Nat} : ∀ (l : List Oper) (i : Nat) (pend : List (Nat × Oper)), (canGo P A l i pend).Perm (pend ++ enumL l i)
 | [], i, pend => by simp only [canGo, enumL, List.append_nil]; exact .refl _
 | o :: l, i, pend => by
  simp only [canGo, enumL]
  cases isLate P o with
  | true =>
   rw [cnd_true]
   have := canGo_perm (P := P) (A := A) l (i + 1) (pend ++ [(i, o)])
   rw [List.append_assoc, List.singleton_append] at this
   exact this
  | false =>
   rw [cnd_false]
   have h1 := canGo_perm (P := P) (A := A) l (i + 1) (pend.filter fun p => !hasBit A i p)
   have h2 : (pend.filter (hasBit A i) ++ pend.filter fun p => !hasBit A i p).Perm pend := List.filter_append_perm _ _
   refine ((List.Perm.cons (i, o) h1).append_left (pend.filter (hasBit A i))).trans ?_
   have h3 : (List.filter (hasBit A i) pend ++ (i, o) :: (List.filter (fun p => !hasBit A i p) pend ++ enumL l (i + 1))).Perm ((List.filter (hasBit A i) pend ++ List.filter (fun p => !hasBit A i p) pend) ++ (i, o) :: enumL l (i + 1)) := by
    rw [List.append_assoc]
    refine List.Perm.append_left _ ?_
    exact (List.perm_middle (l₁ := List.filter (fun p => !hasBit A i p) pend) (l₂ := enumL l (i + 1)) (a := (i, o))).symm
   exact h3.trans (h2.append_right _)
theorem enum_map : ∀ (l : List Oper) (i : Nat), (enumL l i).map (·.1) = List.range' i l.length
 | [], i => rfl
 | o :: l, i => by simp only [enumL, List.map_cons, enum_map l (i + 1), List.length_cons, List.range'_succ]
theorem enum_mem : ∀ (l : List Oper) (i : Nat) (x : Nat × Oper), x ∈ enumL l i ↔ i ≤ x.1 ∧ l[x.1 - i]? = some x.2
 | [], i, x => by simp [enumL]
 | o :: l, i, x => by
  simp only [enumL, List.mem_cons, enum_mem l (i + 1) x]
  obtain ⟨j, q⟩ := x
  simp only [Prod.mk.injEq]
  constructor
  ·rintro (⟨rfl, rfl⟩ | ⟨h1, h2⟩)
   ·simp
   ·refine ⟨by omega, ?_⟩
    rw [show j - i = (j - (i + 1)) + 1 by omega, List.getElem?_cons_succ]; exact h2
  ·rintro ⟨h1, h2⟩
   by_cases e : j = i
   ·subst e; rw [Nat.sub_self, List.getElem?_cons_zero] at h2; exact .inl ⟨rfl, (Option.some.inj h2).symm⟩
   ·rw [show j - i = (j - (i + 1)) + 1 by omega, List.getElem?_cons_succ] at h2
    exact .inr ⟨by omega, h2⟩
structure Can (all : List Oper) (C : List (Nat × Oper)) : Prop where
 len : C.length = all.length
 get : ∀ {p : Nat} {x : Nat × Oper}, C[p]? = some x → all[x.1]? = some x.2
 pos : ∀ {i : Nat} {o : Oper}, all[i]? = some o → ∃ p : Nat, C[p]? = some (i, o)
 inj : ∀ {p q : Nat} {x y : Nat × Oper}, C[p]? = some x → C[q]? = some y → x.1 = y.1 → p = q
theorem can_of {P : Program} {A : List Nat} (all : List Oper) : Can all (canGo P A all 0 []) := by
 have hp := canGo_perm (P := P) (A := A) all 0 []
 rw [List.nil_append] at hp
 refine ⟨?_, fun {p x} h => ?_, fun {i o} h => ?_, fun {p q x y} h1 h2 e => ?_⟩
 ·have := hp.length_eq
  rw [this, ← List.length_map (f := (·.1)), enum_map, List.length_range']
 ·have := (enum_mem all 0 x).1 (hp.mem_iff.1 (List.mem_of_getElem? h))
  simpa using this.2
 ·have : (i, o) ∈ canGo P A all 0 [] := hp.mem_iff.2 ((enum_mem all 0 (i, o)).2 ⟨by omega, by simpa using h⟩)
  exact List.getElem?_of_mem this
 ·have hn : ((canGo P A all 0 []).map (·.1)).Nodup := by
   rw [(hp.map (·.1)).nodup_iff, enum_map]
   exact List.nodup_range'
  have g1 : ((canGo P A all 0 []).map (·.1))[p]? = some x.1 := by rw [List.getElem?_map, h1]; rfl
  have g2 : ((canGo P A all 0 []).map (·.1))[q]? = some x.1 := by rw [List.getElem?_map, h2, e]; rfl
  have l1 := (List.getElem?_eq_some_iff.1 g1).1
  exact (List.getElem?_inj l1 hn).1 (g1.trans g2.symm)

theorem land_sub {a b : Nat} (h : Nat.beq (Nat.land a b) a = true) {j : Nat} (hj : a.testBit j = true) : b.testBit j = true := by
 have e : a &&& b = a := Nat.eq_of_beq_eq_true h
 have : (a &&& b).testBit j = true := by rw [e]; exact hj
 rw [Nat.testBit_and] at this
 simp at this
 exact this.2
theorem land_sub' {m bits : Nat} (h : Nat.beq (Nat.land m bits) m = true) {j : Nat} (hj : m.testBit j = true) : bits.testBit j = true := land_sub h hj
theorem lor_two (m i j : Nat) : (Nat.lor m (Nat.pow 2 i)).testBit j = (m.testBit j || decide (i = j)) := by
 show (m ||| 2 ^ i).testBit j = _
 rw [Nat.testBit_or, Nat.testBit_two_pow]
section
variable {P : Program} {all : List Oper}
theorem pairsTo_spec {b : Oper} {bits : Nat} : ∀ {l : List (Nat × Oper)}, pairsTo P all l b bits = true → ∀ y ∈ l, pairOK P all y.2 y.1 b bits = true
 | [], _, y, h => by simp at h
 | a :: l, h, y, hy => by
  simp only [pairsTo, Bool.and_eq_true] at h
  rcases List.mem_cons.1 hy with rfl | hy
  ·exact h.1
  ·exact pairsTo_spec h.2 y hy
theorem consGo_spec {us : List Tmp} {bits : Nat} : ∀ {l : List (Nat × Oper)} {m : Nat}, consGo P us bits l m = true → ∀ (k : Nat) (y : Nat × Oper), l[k]? = some y → isLate P y.2 = true → hitT y.2.dst us = true → (∀ j, m.testBit j = true → bits.testBit j = true) ∧ ∀ (k' : Nat) (z : Nat × Oper), k' < k → l[k']? = some z → isChg P z.2 = true → bits.testBit z.1 = true
 | [], m, h, k, y, hk, _, _ => by simp at hk
 | a :: l, m, h, k, y, hk, h1, h2 => by
  simp only [consGo, Bool.and_eq_true] at h
  cases k with
  | zero =>
   simp only [List.getElem?_cons_zero, Option.some.injEq] at hk
   subst hk
   have h3 := h.1
   rw [h1, h2] at h3
   simp only [Bool.and_self, Bool.not_true, Bool.false_or] at h3
   exact ⟨fun j hj => land_sub' h3 hj, fun k' z hk' => by omega⟩
  | succ k =>
   obtain ⟨g1, g2⟩ := consGo_spec h.2 k y (by simpa using hk) h1 h2
   refine ⟨fun j hj => g1 j ?_, fun k' z hk' hz hc => ?_⟩
   ·cases isChg P a.2 with
    | true => rw [cnd_true, lor_two, hj]; rfl
    | false => exact hj
   ·cases k' with
    | zero =>
     simp only [List.getElem?_cons_zero, Option.some.injEq] at hz
     subst hz
     refine g1 a.1 ?_
     rw [hc, cnd_true, lor_two]
     simp
    | succ k' => exact g2 k' z (by omega) (by simpa using hz) hc
structure Pos (P : Program) (all : List Oper) (A : List Nat) (C : List (Nat × Oper)) (p : Nat) (x : Nat × Oper) : Prop where
 topo : ∀ j, (A.getD x.1 0).testBit j = true → ∃ q y, q < p ∧ C[q]? = some y ∧ y.1 = j
 pair : ∀ q y, q < p → C[q]? = some y → pairOK P all y.2 y.1 x.2 (A.getD x.1 0) = true
 cons : ∀ f y, f < p → C[f]? = some y → isLate P y.2 = true → hitT y.2.dst (usesL all x.2) = true → ∀ c z, c < f → C[c]? = some z → isChg P z.2 = true → (A.getD x.1 0).testBit z.1 = true
theorem pairsAll_spec {A : List Nat} : ∀ {l : List (Nat × Oper)} {seen : List (Nat × Oper)} {m : Nat}, pairsAll P all A seen l m = true → (∀ j, m.testBit j = true → ∃ y ∈ seen, y.1 = j) → ∀ p x, (seen ++ l)[p]? = some x → seen.length ≤ p → Pos P all A (seen ++ l) p x
 | [], seen, m, h, hm, p, x, hx, hp => by
  rw [List.append_nil] at hx
  have := (List.getElem?_eq_some_iff.1 hx).1
  omega
 | b :: l, seen, m, h, hm, p, x, hx, hp => by
  simp only [pairsAll, Bool.and_eq_true] at h
  obtain ⟨⟨h1, h2, h3⟩, h4⟩ := h
  by_cases e : p = seen.length
  ·subst e
   rw [List.getElem?_append_right (Nat.le_refl _), Nat.sub_self, List.getElem?_cons_zero, Option.some.injEq] at hx
   subst hx
   refine ⟨fun j hj => ?_, fun q y hq hy => ?_, fun f y hf hy g1 g2 c z hc hz g3 => ?_⟩
   ·obtain ⟨y, hy, rfl⟩ := hm j (land_sub h1 hj)
    obtain ⟨q, hq⟩ := List.getElem?_of_mem hy
    have := (List.getElem?_eq_some_iff.1 hq).1
    exact ⟨q, y, this, by rw [List.getElem?_append_left this]; exact hq, rfl⟩
   ·rw [List.getElem?_append_left hq] at hy
    exact pairsTo_spec h2 y (List.mem_of_getElem? hy)
   ·rw [List.getElem?_append_left hf] at hy
    rw [List.getElem?_append_left (by omega)] at hz
    exact (consGo_spec h3 f y hy g1 g2).2 c z hc hz g3
  ·have hx' : ((seen ++ [b]) ++ l)[p]? = some x := by rw [List.append_assoc, List.singleton_append]; exact hx
   have := pairsAll_spec h4 (fun j hj => by
    rw [lor_two] at hj
    simp only [Bool.or_eq_true, decide_eq_true_eq] at hj
    rcases hj with hj | hj
    ·obtain ⟨y, hy, e⟩ := hm j hj; exact ⟨y, List.mem_append_left _ hy, e⟩
    ·exact ⟨b, by simp, hj⟩) p x hx' (by simp; omega)
   rw [List.append_assoc, List.singleton_append] at this
   exact this
end
theorem veq0_eq : ∀ {a b : Value}, veq0 a b = true → a = b := by
 intro a b h
 unfold veq0 at h
 split at h
 ·simpa using h
 ·simp only [Bool.and_eq_true, decide_eq_true_eq] at h; rw [h.1, h.2]
 ·rename_i a b
  have : a.data.toList = b.data.toList := by simpa using h
  have h2 : a.data = b.data := Array.toList_inj.1 this
  rw [ByteArray.ext h2]
 ·rfl
 ·simp only [Bool.and_eq_true] at h; rw [beq_inv h.1, beq_inv h.2]
 ·simp only [Bool.and_eq_true] at h; rw [beq_inv h.1, beq_inv h.2]
 ·simp only [Bool.and_eq_true] at h; rw [beq_inv h.1, beq_inv h.2.1, beq_inv h.2.2.1, beq_inv h.2.2.2]
 ·rfl
 ·rw [beq_inv h]
 ·rfl
 ·rfl
 ·cases h
theorem veq1_eq : ∀ {a b : Value}, veq1 a b = true → a = b := by
 intro a b h
 unfold veq1 at h
 split at h
 ·simp only [Bool.and_eq_true] at h; rw [beq_inv h.1, veq0_eq h.2]
 ·simp only [Bool.and_eq_true, List.isEmpty_iff] at h
  obtain ⟨h1, h2, h3, h4, h5⟩ := h
  rw [beq_inv h1, Array.toList_inj.1 (h2.trans h4.symm), Array.toList_inj.1 (h3.trans h5.symm)]
 ·exact veq0_eq h
theorem veqL_eq : ∀ {a b : List Value}, veqL a b = true → a = b
 | [], [], _ => rfl
 | [], _ :: _, h => by cases h
 | _ :: _, [], h => by cases h
 | a :: l, b :: m, h => by
  simp only [veqL, Bool.and_eq_true] at h
  rw [veq1_eq h.1, veqL_eq h.2]
theorem veq_eq {a b : Value} (h : veq a b = true) : a = b := by
 unfold veq at h
 split at h
 ·rename_i a b; rw [Array.toList_inj.1 (veqL_eq h)]
 ·rename_i a b; rw [Array.toList_inj.1 (veqL_eq h)]
 ·exact veq1_eq h

theorem get_putL (n : Nat) (tm : Fr) (d : Option Tmp) (v : Value) (t : Nat) : Fr.get (putL n tm d v) t = if d = some t ∧ t < n then v else Fr.get tm t := by
 cases d with
 | none => simp [putL]
 | some d =>
  rw [putL, Fr.get_put]
  by_cases e : t = d
  ·subst e; simp
  ·have : ¬ d = t := fun q => e q.symm
   simp [e, this]
noncomputable def TL (nn : Nat) (D : Nat → Option Tmp) (T0 : Fr) (V : Nat → Value) (L : Nat → Bool) : Nat → Fr
 | 0 => T0
 | k + 1 => if L k = true then putL nn (TL nn D T0 V L k) (D k) (V k) else TL nn D T0 V L k
section
variable {nn : Nat} {D : Nat → Option Tmp} {T0 : Fr} {V : Nat → Value}
theorem TL_congr {L L' : Nat → Bool} : ∀ k, (∀ j, j < k → L j = L' j) → TL nn D T0 V L k = TL nn D T0 V L' k
 | 0, _ => rfl
 | k + 1, h => by rw [TL, TL, h k (by omega), TL_congr k fun j hj => h j (by omega)]
theorem TL_le {L : Nat → Bool} {t : Nat} : ∀ k, (∀ j, j < k → D j = some t → L j = true) → Fr.get (TL nn D T0 V L k) t = Fr.get (TL nn D T0 V (fun _ => true) k) t
 | 0, _ => rfl
 | k + 1, h => by
  have ih := TL_le (L := L) (t := t) k fun j hj => h j (by omega)
  rw [TL, TL, if_pos rfl, get_putL]
  by_cases c : L k = true
  ·rw [if_pos c, get_putL, ih]
  ·rw [if_neg c, ih]
   have : ¬ D k = some t := fun e => c (h k (by omega) e)
   rw [if_neg (fun q => this q.1)]
theorem TL_ge {L : Nat → Bool} {t i : Nat} : ∀ k, i ≤ k → (∀ j, i ≤ j → j < k → D j = some t → L j = false) → Fr.get (TL nn D T0 V L k) t = Fr.get (TL nn D T0 V L i) t
 | 0, hk, _ => by rw [show i = 0 by omega]
 | k + 1, hk, h => by
  by_cases e : i = k + 1
  ·rw [e]
  ·have ih := TL_ge (L := L) (t := t) k (by omega) fun j h1 h2 => h j h1 (by omega)
   rw [TL]
   by_cases c : L k = true
   ·rw [if_pos c, get_putL, if_neg (fun q => by rw [h k (by omega) (by omega) q.1] at c; cases c), ih]
   ·rw [if_neg c, ih]
theorem TL_ins {L L' : Nat → Bool} {i : Nat} (hi : L i = false) (hi' : L' i = true) (hL : ∀ j, j ≠ i → L' j = L j) (t : Nat) : ∀ k, i < k → (∀ j, i < j → j < k → L j = true → sameD (D i) (D j) = false) →
  Fr.get (TL nn D T0 V L' k) t = if D i = some t ∧ t < nn then V i else Fr.get (TL nn D T0 V L k) t
 | 0, hk, _ => by omega
 | k + 1, hk, h => by
  by_cases e : i = k
  ·subst e
   have e : TL nn D T0 V L (i + 1) = TL nn D T0 V L i := by rw [TL, if_neg (by rw [hi]; simp)]
   rw [e, TL, if_pos hi', get_putL, TL_congr i fun j hj => hL j (by omega)]
  ·have ih := TL_ins hi hi' hL t k (by omega) fun j h1 h2 => h j h1 (by omega)
   rw [TL, TL, hL k (fun q => e q.symm)]
   by_cases c : L k = true
   ·rw [if_pos c, if_pos c, get_putL, get_putL, ih]
    by_cases c1 : D i = some t ∧ t < nn
    ·rw [if_pos c1, if_pos c1]
     have hs := h k (by omega) (by omega) c
     rw [c1.1] at hs
     rw [if_neg (fun q => by rw [q.1] at hs; simp [sameD] at hs)]
    ·rw [if_neg c1, if_neg c1]
   ·rw [if_neg c, if_neg c, ih]
end
theorem FR.ext {M : List Loc} {nn : Nat} {tm tm' : Fr} {a : Array Value} (h : FR M nn tm a) (he : ∀ t, Fr.get tm' t = Fr.get tm t) : FR M nn tm' a := ⟨h.1, fun i => by rw [he]; exact h.2 i⟩
theorem mem_tmpsOf {t : Tmp} : ∀ {l : List Operand}, .tmp t ∈ l → t ∈ tmpsOf l
 | [], h => by simp at h
 | x :: l, h => by
  rcases List.mem_cons.1 h with rfl | h2
  ·exact List.mem_cons_self ..
  ·cases x with
   | tmp u => exact List.mem_cons_of_mem _ (mem_tmpsOf h2)
   | _ => exact mem_tmpsOf (l := l) h2
theorem opnd_of_get {tm tm' : Fr} {l : List Operand} (h : ∀ t ∈ tmpsOf l, Fr.get tm t = Fr.get tm' t) : ∀ x ∈ l, opnd tm x = opnd tm' x := by
 intro x hx
 cases x with
 | tmp t => simp only [opnd, h t (mem_tmpsOf hx)]
 | _ => rfl
theorem wanted_of_get {all : List Oper} {o : Oper} {tm tm' : Fr} (h : ∀ t ∈ usesL all o, Fr.get tm t = Fr.get tm' t) : wantedL all o tm = wantedL all o tm' := by
 unfold wantedL
 cases hg : o.guard with
 | none => rfl
 | some p =>
  obtain ⟨j, want⟩ := p
  simp only [guardL]
  cases hd : dstL all j with
  | none => rfl
  | some d =>
   simp only
   rw [h d (by unfold usesL; rw [hg]; simp [hd])]
theorem countP_ins (p q : Nat → Bool) (i : Nat) (hp : p i = true) (hq : q i = false) (hpq : ∀ j, j ≠ i → q j = p j) : ∀ n, (List.range n).countP p = (List.range n).countP q + (if i < n then 1 else 0)
 | 0 => by simp
 | n + 1 => by
  rw [List.range_succ, List.countP_append, List.countP_append, countP_ins p q i hp hq hpq n]
  by_cases e : n = i
  ·subst e; simp [hp, hq]
  ·have h1 := hpq n e
   simp only [List.countP_singleton, h1]
   by_cases c : i < n
   ·simp [c, show i < n + 1 by omega]; omega
   ·simp [c, show ¬ i < n + 1 by omega]

theorem rdAt_mem {P : Program} {r : Rec} {x : Rd} {ms : List Nat} : ∀ {l : List Heap}, rdAt P r x ms l = true → ∀ h ∈ l, rdOne P r x ms h = true
 | [], _, h, hh => by simp at hh
 | a :: l, hr, h, hh => by
  simp only [rdAt, Bool.and_eq_true] at hr
  rcases List.mem_cons.1 hh with rfl | hh
  ·exact hr.1
  ·exact rdAt_mem hr.2 h hh
/-! ### an act that agrees where the operation looks -/
theorem put_same {a b : Act} (hs : a.tmps.size = b.tmps.size) {d : Option Tmp} {u v : Value} (h : b.put d u = b.put d v) : a.put d u = a.put d v := by
 cases d with
 | none => rfl
 | some d =>
  by_cases c : d < b.tmps.size
  ·have h1 : (b.tmps.setIfInBounds d u)[d]? = (b.tmps.setIfInBounds d v)[d]? := congrArg (fun x : Act => x.tmps[d]?) h
   rw [Array.getElem?_setIfInBounds_self, Array.getElem?_setIfInBounds_self, if_pos c, if_pos c] at h1
   rw [Option.some.inj h1]
  ·have e : ∀ z, a.put (some d) z = a := fun z => by
    have : a.tmps.setIfInBounds d z = a.tmps := by
     apply Array.ext (by simp)
     intro i h1 h2
     rw [Array.getElem_setIfInBounds]
     by_cases q : d = i
     ·subst q
      exact absurd (by rw [← hs]; exact h2) c
     ·rw [if_neg q]
    show { a with tmps := a.tmps.setIfInBounds d z } = a
    rw [this]
   rw [e, e]
theorem OpW.congr {P : Program} {M : List Loc} {w0 : Base} {n : Nat} {ro' : Option Nat} {o : Oper} {a b : Act} {w : World} {v : Value} {h' : Heap} (H : OpW P M w0 n ro' o b w v h') (he : ∀ x ∈ o.op.operands, a.eval x = b.eval x) (hs : a.tmps.size = b.tmps.size)
  (hd : ∀ c, o.op ≠ .defer c) (hsel : ∀ cs c, o.op ≠ .select cs c) : OpW P M w0 n ro' o a w v h' := by
 intro K Q hK
 have h1 := H (fun a2 w2 => ∃ v', a2 = b.put o.dst v' ∧ K (a.put o.dst v') w2) (fun _ _ _ => False) fun N w' v' r1 r2 => ⟨v', rfl, hK N w' v' r1 r2⟩
 refine ⟨fun _ _ => trivial, ?_⟩
 have h2 := h1.2
 rw [ro_defer hd] at h2 ⊢
 rw [execOp_congr o hsel he]
 have key : ∀ (u : Value) (w2 : World), (∃ v', b.put o.dst u = b.put o.dst v' ∧ K (a.put o.dst v') w2) → K (a.put o.dst u) w2 := fun u w2 ⟨v', q1, q2⟩ => by rw [put_same hs q1]; exact q2
 generalize (execOp b.eval o).run P w = r at *
 cases r with
 | ok x w' =>
  cases x <;> simp only [Oper.uponIn] at h2 ⊢
  case value u => exact key u w' h2
  case skip => exact key _ w' h2
  case defer d =>
   obtain ⟨v', q1, _⟩ := h2
   have q2 : (d :: b.defers) = b.defers := by
    have := congrArg Act.defers q1
    cases ho : o.dst with
    | none => rw [ho] at this; exact this
    | some t => rw [ho] at this; exact this
   exact absurd (congrArg List.length q2) (by simp)
  case enter f args =>
   refine ⟨h2.1, CallsIn.mono h2.2 fun e w2 he => ?_⟩
   cases e with
   | returned u => exact key u w2 he
   | panicked c => exact he.elim
   | outgrown => obtain ⟨_, _, q⟩ := he; exact q.elim
  case row row args => exact ⟨h2.1, RowsIn.mono h2.2 fun u w2 he => key u w2 he⟩
  case round l f tmps assign body =>
   refine ⟨h2.1, RoundIn.mono h2.2 fun e w2 he => ?_⟩
   cases e with
   | returned u => exact key u w2 he
   | panicked c => exact he.elim
   | outgrown => obtain ⟨_, _, q⟩ := he; exact q.elim
 | halt x w' => cases x <;> simp only [Oper.uponIn] at h2 ⊢

/-! ### a new block, laid while others run -/
theorem late_new {P : Program} {r : Rec} {M : List Loc} {nn : Nat} {o : Oper} {tm : Fr} {h : Heap} {ms : List Nat} {u : Value × Heap} (hc : isLate P o = true) (he : evO P r o ⟨tm, h, ms⟩ = some u) :
  ∃ (x : Blk) (f : Nat → Value), u = (f h.next, h.push x) ∧ (∀ h2 ms2, evO P r o ⟨tm, h2, ms2⟩ = some (f h2.next, h2.push x)) ∧
   ∀ (a : Act) (w : World), FR M nn tm a.tmps → ∃ s : Sem Value, execOp a.eval o = (do pure (.value (← s))) ∧ NewR P M w s x f := by
 have hc' : cls P o.op = 3 := beq_inv hc
 have hcall : ¬ ∃ c, o.op = .call c := by
  rintro ⟨c, hop⟩
  rw [hop, cls_call] at hc'
  cases hcal : c.callee with
  | builtin b => rw [hcal] at hc'; cases b <;> cases hc'
  | value f => rw [hcal] at hc'; cases hc'
  | invoke _ _ => rw [hcal] at hc'; cases hc'
 rw [evO_op hcall] at he
 have hev : ∀ h2 ms2, evO P r o ⟨tm, h2, ms2⟩ = evOp P tm h2 o.op := fun h2 ms2 => evO_op hcall
 simp only [hev]
 have hex : ∀ ρ, execOp ρ o = execOp ρ o := fun _ => rfl
 have hno : ∀ op, o.op = op → (cls P op = 3) := fun op e => by rw [← e]; exact hc'
 cases hop : o.op with
 | alloc e =>
  rw [hop] at he
  obtain ⟨z, h1, he⟩ := ob_inv he
  cases he
  refine ⟨.cells (cellsL (enc z)) 0, fun id => ptr id 0, rfl, fun h2 ms2 => ?_, fun a w ha => ⟨_, by unfold execOp; rw [hop], new_alloc h1⟩⟩
  show ob (zeroT P e) _ = _
  rw [h1]; rfl
 | box e y =>
  rw [hop] at he
  obtain ⟨v, h1, he⟩ := ob_inv he
  cases he
  refine ⟨.cells (cellsL v) 0, fun id => ptr id 0, rfl, fun h2 ms2 => ?_, fun a w ha => ⟨_, by unfold execOp; rw [hop], new_box e (opnd_sound ha h1)⟩⟩
  show ob (opnd tm y) _ = _
  rw [h1]; rfl
 | buildSlice t len parts =>
  rw [hop] at he
  obtain ⟨d, h1, he⟩ := ob_inv he
  obtain ⟨e, h2, he⟩ := ob_inv he
  obtain ⟨ps, h3, he⟩ := ob_inv he
  obtain ⟨m, h4, he⟩ := ob_inv he
  obtain ⟨z, h5, he⟩ := ob_inv he
  obtain ⟨g1, he⟩ := gd_inv he
  obtain ⟨g2, he⟩ := gd_inv he
  obtain ⟨g3, he⟩ := gd_inv he
  obtain ⟨c, h6, he⟩ := ob_inv he
  cases he
  refine ⟨.cells c m, fun id => .slice (some ⟨id, 0, none⟩) len (2 * len + 1), rfl, fun hh ms2 => ?_, fun a w ha => ⟨_, by unfold execOp; rw [hop], ?_⟩⟩
  ·show ob (P.underlying t) _ = _
   rw [h1]
   show ob (sliceE d) _ = _
   rw [h2]
   show ob (partsL tm parts.toList) _ = _
   rw [h3]
   show ob (sizeT P e) _ = _
   rw [h4]
   show ob (zeroT P e) _ = _
   rw [h5]
   show gd _ (gd _ (gd _ _)) = _
   rw [g1, g2, g3]
   show ob (fillL _ _ _) _ = _
   rw [h6]; rfl
  ·rw [sliceE_inv h2] at h1
   exact new_buildSlice ha h1 h3 h4 h5 (ble_inv g1) (beq_inv g2) (ble_inv g3) h6
 | convert s d y =>
  rw [hop] at hc'
  exfalso
  have hc2 : clsConv (P.underlying s) (P.underlying d) = 3 := hc'
  revert hc2
  unfold clsConv
  split <;> simp
 | call c => exact absurd ⟨c, hop⟩ hcall
 | _ => rw [hop] at hc'; cases hc'
/-! ### the order gone through: what stands where -/
theorem cls_le {P : Program} (op : Op) : cls P op ≤ 3 := by
 unfold cls
 split <;> first | decide | skip
 unfold clsConv
 split <;> decide
theorem isChg_false {P : Program} {o : Oper} (h : isChg P o = false) : cls P o.op < 2 := by
 unfold isChg isEff isLate at h
 have := cls_le (P := P) o.op
 simp only [Bool.or_eq_false_iff] at h
 have h2 : cls P o.op ≠ 2 := fun e => by rw [e] at h; exact absurd h.1 (by decide)
 have h3 : cls P o.op ≠ 3 := fun e => by rw [e] at h; exact absurd h.2 (by decide)
 omega
theorem chg_eff {P : Program} {o : Oper} (h : isEff P o = true) : isChg P o = true := by unfold isChg; rw [h]; rfl
theorem chg_late {P : Program} {o : Oper} (h : isLate P o = true) : isChg P o = true := by unfold isChg; rw [h]; simp
theorem chg_or {P : Program} {o : Oper} (h : isChg P o = true) : isEff P o = true ∨ isLate P o = true := by unfold isChg at h; simpa using h
noncomputable def dC (C : List (Nat × Oper)) (p : Nat) : Option Tmp := (C[p]?).bind (·.2.dst)
theorem dC_at {C : List (Nat × Oper)} {p : Nat} {x : Nat × Oper} (h : C[p]? = some x) : dC C p = x.2.dst := by unfold dC; rw [h]; rfl
noncomputable def cntC (P : Program) (l : List (Nat × Oper)) : Nat := l.countP fun x => isChg P x.2
section
variable {P : Program} {r : Rec} {nn : Nat} {all : List Oper} {C : List (Nat × Oper)} {ms : List Nat} {T : Nat → Fr} {Hp : Nat → Heap} {V : Nat → Value}
theorem T_eq (ht : ∀ p x, C[p]? = some x → Tr P r nn all ms T Hp V p x.2) : ∀ k, k ≤ C.length → T k = TL nn (dC C) (T 0) V (fun _ => true) k
 | 0, _ => rfl
 | k + 1, hk => by
  have ho : C[k]? = some (C[k]'(by omega)) := List.getElem?_eq_getElem _
  rw [(ht k _ ho).next, TL, if_pos rfl, ← T_eq ht k (by omega), dC_at ho]
theorem Hp_step (ht : ∀ p x, C[p]? = some x → Tr P r nn all ms T Hp V p x.2) {k : Nat} {x : Nat × Oper} (ho : C[k]? = some x) (he : isChg P x.2 = false ∨ wantedL all x.2 (T k) = false) : Hp (k + 1) = Hp k := by
 cases hw : wantedL all x.2 (T k) with
 | false => exact ((ht k x ho).no hw).2
 | true =>
  rcases he with he | he
  ·exact evO_same (isChg_false he) ((ht k x ho).yes hw)
  ·rw [hw] at he; cases he
theorem Hp_same (ht : ∀ p x, C[p]? = some x → Tr P r nn all ms T Hp V p x.2) {a : Nat} : ∀ b, a ≤ b → b ≤ C.length → (∀ p x, a ≤ p → p < b → C[p]? = some x → isChg P x.2 = false) → Hp b = Hp a
 | 0, h, _, _ => by rw [show a = 0 by omega]
 | b + 1, h, hb, hn => by
  by_cases e : a = b + 1
  ·rw [e]
  ·have ho : C[b]? = some (C[b]'(by omega)) := List.getElem?_eq_getElem _
   rw [Hp_step ht ho (.inl (hn b _ (by omega) (by omega) ho))]
   exact Hp_same ht b (by omega) (by omega) fun p x h1 h2 => hn p x h1 (by omega)
theorem cntC_succ {q : Nat} {x : Nat × Oper} (ho : C[q]? = some x) : cntC P (C.take (q + 1)) = cntC P (C.take q) + if isChg P x.2 = true then 1 else 0 := by
 have hq : q < C.length := (List.getElem?_eq_some_iff.1 ho).1
 unfold cntC
 rw [List.take_succ_eq_append_getElem hq, List.countP_append, List.countP_singleton]
 rw [List.getElem?_eq_getElem hq] at ho
 cases ho
 rfl
theorem chg_at (l : List (Nat × Oper)) : ∀ (n : Nat), n ≤ l.length → ∀ i x, i < n → l[i]? = some x → isChg P x.2 = true → (((List.range n).filter fun j => (l[j]?).any fun x => isChg P x.2))[cntC P (l.take i)]? = some i
 | 0, _, i, x, hi, _, _ => by omega
 | n + 1, hn, i, x, hi, ho, he => by
  have len : ∀ k, k ≤ l.length → ((List.range k).filter fun j => (l[j]?).any fun x => isChg P x.2).length = cntC P (l.take k) := by
   intro k
   induction k with
   | zero => intro _; rfl
   | succ k ih =>
    intro hk
    have hl : l[k]? = some (l[k]'(by omega)) := List.getElem?_eq_getElem _
    rw [List.range_succ, List.filter_append, List.length_append, ih (by omega), cntC_succ hl]
    simp only [List.filter_cons, List.filter_nil, hl, Option.any_some]
    cases isChg P (l[k]'(by omega)).2 <;> rfl
  rw [List.range_succ, List.filter_append]
  by_cases e : i = n
  ·subst e
   rw [List.getElem?_append_right (by rw [len i (by omega)]; exact Nat.le_refl _), len i (by omega), Nat.sub_self]
   simp [ho, he]
  ·have ih := chg_at l n (by omega) i x (by omega) ho he
   rw [List.getElem?_append_left (List.getElem?_eq_some_iff.1 ih).1]
   exact ih
theorem hs_at (ht : ∀ p x, C[p]? = some x → Tr P r nn all ms T Hp V p x.2) : ∀ q, q ≤ C.length → ([Hp 0] ++ ((List.range C.length).filter fun j => (C[j]?).any fun x => isChg P x.2).map (fun j => Hp (0 + j + 1)))[cntC P (C.take q)]? = some (Hp q)
 | 0, _ => rfl
 | q + 1, hq => by
  have ho : C[q]? = some (C[q]'(by omega)) := List.getElem?_eq_getElem _
  rw [cntC_succ ho]
  cases he : isChg P (C[q]'(by omega)).2 with
  | false =>
   simp only [Bool.false_eq_true, if_false, Nat.add_zero]
   rw [hs_at ht q (by omega), Hp_step ht ho (.inl he)]
  | true =>
   simp only [if_true]
   have := chg_at (P := P) C C.length (Nat.le_refl _) q _ (by omega) ho he
   rw [List.singleton_append, List.getElem?_cons_succ, List.getElem?_map, this]
   simp only [Option.map_some, Nat.zero_add]
theorem cntC_eq {a : Nat} : ∀ b, a ≤ b → b ≤ C.length → cntC P (C.take a) = cntC P (C.take b) → ∀ p x, a ≤ p → p < b → C[p]? = some x → isChg P x.2 = false := by
 intro b hab hb he p x h1 h2 ho
 have hle : ∀ x y, x ≤ y → y ≤ C.length → cntC P (C.take x) ≤ cntC P (C.take y) := by
  intro x y hxy _
  unfold cntC
  have : C.take y = C.take x ++ (C.take y).drop x := by
   have := List.take_append_drop x (C.take y)
   rw [List.take_take, Nat.min_eq_left hxy] at this
   exact this.symm
  rw [this, List.countP_append]
  omega
 have hc := cntC_succ (P := P) ho
 have h3 := hle a p h1 (by omega)
 have h4 := hle (p + 1) b (by omega) hb
 cases hq : isChg P x.2 with
 | false => rfl
 | true => rw [hq, if_pos rfl] at hc; omega
end
theorem lo_le {P : Program} {bits : Nat} : ∀ {C : List (Nat × Oper)} {q : Nat}, (∀ p x, C[p]? = some x → isEff P x.2 = true → bits.testBit x.1 = true → p < q) → loOf P bits C ≤ cntC P (C.take q)
 | [], q, h => by simp [loOf]
 | a :: l, q, h => by
  simp only [loOf]
  cases q with
  | zero =>
   have h0 : (isEff P a.2 && bits.testBit a.1) = false := by
    cases hc : (isEff P a.2 && bits.testBit a.1) with
    | false => rfl
    | true =>
     simp only [Bool.and_eq_true] at hc
     have := h 0 a rfl hc.1 hc.2
     omega
   have h0' : (isEff P a.2 && Nat.testBit bits a.1) = false := h0
   rw [h0', cnd_false]
   have := lo_le (P := P) (bits := bits) (C := l) (q := 0) fun p x hp he hb => by
    have := h (p + 1) x (by simpa using hp) he hb
    omega
   simpa using this
  | succ q =>
   have := lo_le (P := P) (bits := bits) (C := l) (q := q) fun p x hp he hb => by
    have := h (p + 1) x (by simpa using hp) he hb
    omega
   rw [List.take_succ_cons]
   unfold cntC at this ⊢
   rw [List.countP_cons]
   cases he : isEff P a.2 with
   | false => simp only [Bool.false_and, cnd_false]; omega
   | true =>
    rw [chg_eff he]
    cases Nat.testBit bits a.1 with
    | true => simp only [Bool.and_self, cnd_true, if_true]; omega
    | false => simp only [Bool.and_false, cnd_false, if_true]; omega
theorem le_hi {P : Program} {A : List Nat} {i : Nat} : ∀ {C : List (Nat × Oper)} {q : Nat}, (∀ p x, C[p]? = some x → isChg P x.2 = true → p < q → (A.getD x.1 0).testBit i = false) → cntC P (C.take q) ≤ hiOf P A i C
 | [], q, h => by simp [cntC]
 | a :: l, q, h => by
  cases q with
  | zero => simp [cntC]
  | succ q =>
   have ih := le_hi (P := P) (A := A) (i := i) (C := l) (q := q) fun p x hp he hq => h (p + 1) x (by simpa using hp) he (by omega)
   rw [List.take_succ_cons]
   unfold cntC at ih ⊢
   rw [List.countP_cons]
   simp only [hiOf]
   cases he : isChg P a.2 with
   | false => simp only [cnd_false]; simpa using ih
   | true =>
    have hb : Nat.testBit (A.getD a.1 0) i = false := h 0 a rfl he (by omega)
    rw [hb]
    simp only [cnd_true, cnd_false, if_true]
    omega
theorem rdsOK_mem {P : Program} {r : Rec} {C : List (Nat × Oper)} {A ms : List Nat} {hs : List Heap} : ∀ {l : List Rd}, rdsOK P r C A ms hs l = true → ∀ x ∈ l, loOf P (A.getD x.i 0) C = hiOf P A x.i C ∨ rdAt P r x ms ((hs.drop (loOf P (A.getD x.i 0) C)).take (Nat.succ (hiOf P A x.i C) - loOf P (A.getD x.i 0) C)) = true
 | [], _, x, hx => by simp at hx
 | y :: l, h, x, hx => by
  simp only [rdsOK, Bool.and_eq_true] at h
  rcases List.mem_cons.1 hx with rfl | hx
  ·have h1 := h.1
   simp only [Bool.or_eq_true] at h1
   exact h1.imp beq_inv id
  ·exact rdsOK_mem h.2 x hx

/-! ### ancestors -/
theorem anc_listed {all : List Oper} {A : List Nat} (hA : ancGo all 0 [] = some A) (L : Nat → Bool)
  (hed : ∀ j o, all[j]? = some o → L j = true → ∀ e ∈ o.after.toList, Region.binds .any e = true → L e.on = true) :
  ∀ (n j : Nat), j < n → ∀ o, all[j]? = some o → (∀ e ∈ o.after.toList, Region.binds .any e = true → L e.on = true) → ∀ k, (A.getD j 0).testBit k = true → L k = true
 | 0, j, hj, _, _, _, _, _ => by omega
 | n + 1, j, hj, o, ho, he, k, hk => by
  obtain ⟨hlen, _, h3⟩ := ancGo_spec (l := all) (i := 0) (acc := []) rfl hA
  obtain ⟨b, acc', h4, h5, h6⟩ := h3 j o ho
  rw [Nat.zero_add] at h4 h5 h6
  rw [List.getD_eq_getElem?_getD, h4] at hk
  obtain ⟨q1, q2⟩ := edgeBits_spec h5
  obtain ⟨e, e1, e2, e3⟩ := q2 k hk
  rcases e3 with rfl | e3
  ·exact he e e1 e2
  ·have hlt := (q1 e e1 e2).1
   have hjl : j < all.length := (List.getElem?_eq_some_iff.1 ho).1
   have hoe : all[e.on]? = some (all[e.on]'(by omega)) := List.getElem?_eq_getElem _
   rw [List.getD_eq_getElem?_getD, h6 e.on hlt, ← List.getD_eq_getElem?_getD] at e3
   exact anc_listed hA L hed n e.on (by omega) _ hoe (fun e' he' hb' => hed _ _ hoe (he e e1 e2) e' he' hb') k e3
theorem edge_bit {all : List Oper} {A : List Nat} (hA : ancGo all 0 [] = some A) {j : Nat} {o : Oper} (ho : all[j]? = some o) : ∀ e ∈ o.after.toList, Region.binds .any e = true → (A.getD j 0).testBit e.on = true ∧ e.on < j := by
 obtain ⟨hlen, _, h3⟩ := ancGo_spec (l := all) (i := 0) (acc := []) rfl hA
 obtain ⟨b, acc', h4, h5, h6⟩ := h3 j o ho
 rw [Nat.zero_add] at h4 h5 h6
 intro e he hb
 rw [List.getD_eq_getElem?_getD, h4]
 have := (edgeBits_spec h5).1 e he hb
 exact ⟨this.2, this.1⟩

/-! ### bases -/
noncomputable def Base.add (b : Base) (w : World) (k : Nat) (hk : k < w.heap.size) (hl : ∀ j, b.kept j → j < w.heap.size) (hb : ∀ j, b.ro j → w.heap[j]? = b.w.heap[j]?) : Base := ⟨w, fun j => b.kept j ∨ j = k, b.ro, fun j h => h.elim (hl j) fun e => e ▸ hk, fun j h => .inl (b.sub j h)⟩
noncomputable def Base.del (b : Base) (k : Nat) (hk : ¬ b.ro k) : Base := ⟨b.w, fun j => b.kept j ∧ j ≠ k, b.ro, fun j h => b.lt j h.1, fun j h => ⟨b.sub j h, fun e => hk (e ▸ h)⟩⟩
theorem HR.rebase {M : List Loc} {b b2 : Base} {h : Heap} {w : World} (H : HR M b h w) (hk : ∀ i l, M[i]? = some l → own (h.get i) = true → ¬ b2.kept l.blk) (hro : b2.ro = b.ro) (hbel : Bel b2 b2.w w) : HR M b2 h w := by
 refine ⟨H.len, H.live, fun i l hl => ?_, H.inj, hbel⟩
 have h1 := H.blk i l hl
 have h2 := hk i l hl
 cases hx : h.get i with
 | dead => trivial
 | cells c es => rw [hx] at h1 h2; exact ⟨h1.1, h2 rfl, h1.2.2⟩
 | ro c => rw [hx] at h1; exact ⟨by rw [hro]; exact h1.1, h1.2⟩
 | map es k => rw [hx] at h1 h2; exact ⟨h2 rfl, h1.2⟩
 | loop L => rw [hx] at h1 h2; exact ⟨h2 rfl, h1.2⟩
 | defd => rw [hx] at h1 h2; exact ⟨h2 rfl, h1.2⟩

/-! ### the state while a region runs -/
noncomputable def floB (P : Program) (all : List Oper) (C : List (Nat × Oper)) (T : Nat → Fr) (listed : Array Bool) (q p : Nat) : Bool := match C[p]? with
 | some x => Nat.ble q p && (isLate P x.2 && (wantedL all x.2 (T p) && listed.getD x.1 false))
 | none => false
noncomputable def absB (P : Program) (all : List Oper) (C : List (Nat × Oper)) (T : Nat → Fr) (listed : Array Bool) (q p : Nat) : Bool := match C[p]? with
 | some x => listed.getD x.1 false && !floB P all C T listed q p
 | none => false
theorem floB_inv {P : Program} {all : List Oper} {C : List (Nat × Oper)} {T : Nat → Fr} {listed : Array Bool} {q p : Nat} (h : floB P all C T listed q p = true) : ∃ x, C[p]? = some x ∧ q ≤ p ∧ isLate P x.2 = true ∧ wantedL all x.2 (T p) = true ∧ listed.getD x.1 false = true := by
 unfold floB at h
 cases hx : C[p]? with
 | none => rw [hx] at h; cases h
 | some x =>
  rw [hx] at h
  simp only [Bool.and_eq_true] at h
  exact ⟨x, rfl, Nat.le_of_ble_eq_true h.1, h.2.1, h.2.2.1, h.2.2.2⟩
theorem floB_of {P : Program} {all : List Oper} {C : List (Nat × Oper)} {T : Nat → Fr} {listed : Array Bool} {q p : Nat} {x : Nat × Oper} (hx : C[p]? = some x) (h1 : q ≤ p) (h2 : isLate P x.2 = true) (h3 : wantedL all x.2 (T p) = true) (h4 : listed.getD x.1 false = true) : floB P all C T listed q p = true := by
 unfold floB
 rw [hx]
 simp only [Nat.ble_eq_true_of_le h1, h2, h3, h4, Bool.and_self]
theorem floB_next {P : Program} {all : List Oper} {C : List (Nat × Oper)} {T : Nat → Fr} {listed : Array Bool} {q p : Nat} (hne : p ≠ q) : floB P all C T listed (q + 1) p = floB P all C T listed q p := by
 unfold floB
 cases C[p]? with
 | none => rfl
 | some x =>
  have : Nat.ble (q + 1) p = Nat.ble q p := by
   cases h : Nat.ble q p with
   | true => have := Nat.le_of_ble_eq_true h; exact Nat.ble_eq_true_of_le (by omega)
   | false =>
    cases h2 : Nat.ble (q + 1) p with
    | false => rfl
    | true => have := Nat.le_of_ble_eq_true h2; rw [Nat.ble_eq_true_of_le (by omega : q ≤ p)] at h; cases h
  simp only [this]
theorem floB_past {P : Program} {all : List Oper} {C : List (Nat × Oper)} {T : Nat → Fr} {listed : Array Bool} {q p : Nat} (h : p < q) : floB P all C T listed q p = false := by
 cases hf : floB P all C T listed q p with
 | false => rfl
 | true => obtain ⟨_, _, h1, _⟩ := floB_inv hf; omega

structure Inv (P : Program) (ops : Array Oper) (C : List (Nat × Oper)) (nn : Nat) (ms : List Nat) (T : Nat → Fr) (Hp : Nat → Heap) (V : Nat → Value) (M : List Loc) (w0 : Base) (listed : Array Bool) (a : Act) (w : World)
  (q : Nat) (N : List Loc) (wb : Base) (aB : Act) (xf : Nat → Blk) (gf : Nat → Nat → Value) (lf : Nat → Loc) (of : Nat → Obj) (vf : Nat → Value) : Prop where
 size : listed.size = ops.size
 edge : ∀ j o, ops.toList[j]? = some o → listed.getD j false = true → ∀ e ∈ o.after.toList, Region.binds .any e = true → listed.getD e.on false = true
 hq : q ≤ C.length
 low : ∀ p x, C[p]? = some x → isChg P x.2 = true → p < q → listed.getD x.1 false = true
 effs : ∀ p x, C[p]? = some x → isEff P x.2 = true → listed.getD x.1 false = true → p < q
 heap : HR (M ++ N) wb (Hp q) w
 bel : Bel w0 w0.w wb.w
 kept : ∀ k, w0.kept k → wb.kept k
 ro : wb.ro = w0.ro
 frame : FR (M ++ N) nn (TL nn (dC C) (T 0) V (absB P ops.toList C T listed q) C.length) aB.tmps
 asize : a.tmps.size = aB.tmps.size
 adef : a.defers = aB.defers
 agree : ∀ t, (∀ p, floB P ops.toList C T listed q p = true → dC C p ≠ some t) → a.tmps.getD t undef = aB.tmps.getD t undef
 hold : ∀ p t, floB P ops.toList C T listed q p = true → dC C p = some t → t < nn → a.tmps.getD t undef = vf p
 flo : ∀ p, floB P ops.toList C T listed q p = true → Hp (p + 1) = (Hp p).push (xf p) ∧ V p = gf p (Hp p).next ∧ own (xf p) = true ∧ w.heap[(lf p).blk]? = some (of p) ∧ wb.kept (lf p).blk ∧ ¬ w0.kept (lf p).blk ∧
  (∀ (N2 : List Loc) (B : Base) (w2 : World), w2.heap[(lf p).blk]? = some (of p) → ¬ B.kept (lf p).blk → BR (M ++ N ++ N2) B w2 (lf p) (xf p)) ∧ ∀ (N2 : List Loc) (id : Nat), (M ++ N ++ N2)[id]? = some (lf p) → VR (M ++ N ++ N2) (gf p id) (vf p)
 apart : ∀ p p', floB P ops.toList C T listed q p = true → floB P ops.toList C T listed q p' = true → p ≠ p' → (lf p).blk ≠ (lf p').blk
 defers : DR (M ++ N) ms a.defers

section
variable {P : Program} {r : Rec} {ops : Array Oper} {A : List Nat} {C : List (Nat × Oper)} {nn : Nat} {ms : List Nat} {T : Nat → Fr} {Hp : Nat → Heap} {V : Nat → Value} {M : List Loc} {w0 : Base} {listed : Array Bool} {a : Act} {w : World} {q : Nat} {N : List Loc} {wb : Base} {aB : Act}
 {xf : Nat → Blk} {gf : Nat → Nat → Value} {lf : Nat → Loc} {of : Nat → Obj} {vf : Nat → Value}
theorem late_same (hpos : ∀ p x, C[p]? = some x → Pos P ops.toList A C p x) {p j : Nat} {x y : Nat × Oper} (hx : C[p]? = some x) (hy : C[j]? = some y) (hne : p ≠ j) (hl : isLate P x.2 = true) : sameD x.2.dst y.2.dst = false ∧ sameD y.2.dst x.2.dst = false := by
 have sym : ∀ a b, sameD a b = sameD b a := by
  intro a b
  cases a <;> cases b <;> try rfl
  rename_i a b
  show Nat.beq a b = Nat.beq b a
  cases h : Nat.beq a b with
  | true => rw [Nat.eq_of_beq_eq_true h]; exact (Nat.beq_refl b).symm
  | false =>
   cases h2 : Nat.beq b a with
   | false => rfl
   | true => rw [Nat.eq_of_beq_eq_true h2, Nat.beq_refl] at h; cases h
 have key : sameD x.2.dst y.2.dst = false := by
  rcases Nat.lt_or_ge p j with h | h
  ·have := (hpos j y hy).pair p x h hx
   unfold pairOK at this
   simp only [hl, Bool.true_or, Bool.true_and, Bool.and_eq_true, Bool.not_eq_true'] at this
   exact this.2
  ·have := (hpos p x hx).pair j y (by omega) hy
   unfold pairOK at this
   simp only [hl, Bool.or_true, Bool.true_and, Bool.and_eq_true, Bool.not_eq_true'] at this
   rw [sym]; exact this.2
 exact ⟨key, by rw [sym]; exact key⟩
theorem sameD_ne {d e : Option Tmp} (h : sameD d e = false) {t : Tmp} (hd : d = some t) : e ≠ some t := by
 intro he
 subst hd; subst he
 simp [sameD] at h

theorem absorb_step (ht : ∀ p x, C[p]? = some x → Tr P r nn ops.toList ms T Hp V p x.2) (hpos : ∀ p x, C[p]? = some x → Pos P ops.toList A C p x) (I : Inv P ops C nn ms T Hp V M w0 listed a w q N wb aB xf gf lf of vf) {x : Nat × Oper} (hx : C[q]? = some x) (hdone : isChg P x.2 = true → listed.getD x.1 false = true) :
  ∃ N' wb' aB', Inv P ops C nn ms T Hp V M w0 listed a w (q + 1) N' wb' aB' xf gf lf of vf := by
 have hql : q < C.length := (List.getElem?_eq_some_iff.1 hx).1
 have hlow : ∀ p y, C[p]? = some y → isChg P y.2 = true → p < q + 1 → listed.getD y.1 false = true := fun p y hy hc hp => by
  by_cases e : p = q
  ·subst e; rw [hx] at hy; cases hy; exact hdone hc
  ·exact I.low p y hy hc (by omega)
 have heffs : ∀ p y, C[p]? = some y → isEff P y.2 = true → listed.getD y.1 false = true → p < q + 1 := fun p y hy hc hl => by
  have := I.effs p y hy hc hl; omega
 cases hf : floB P ops.toList C T listed q q with
 | false =>
  have hflo : floB P ops.toList C T listed (q + 1) = floB P ops.toList C T listed q := by
   funext p
   by_cases e : p = q
   ·subst e; rw [hf]; exact floB_past (by omega)
   ·exact floB_next e
  have habs : absB P ops.toList C T listed (q + 1) = absB P ops.toList C T listed q := by
   funext p; unfold absB; rw [hflo]
  have hHp : Hp (q + 1) = Hp q := by
   refine Hp_step ht hx ?_
   cases hc : isChg P x.2 with
   | false => exact .inl rfl
   | true =>
    have hl := hdone hc
    rcases chg_or hc with he | he
    ·have := I.effs q x hx he hl; omega
    ·refine .inr ?_
     cases hw : wantedL ops.toList x.2 (T q) with
     | false => rfl
     | true => rw [floB_of hx (Nat.le_refl _) he hw hl] at hf; cases hf
  refine ⟨N, wb, aB, I.size, I.edge, hql, hlow, heffs, by rw [hHp]; exact I.heap, I.bel, I.kept, I.ro, by rw [habs]; exact I.frame, I.asize, I.adef, by rw [hflo]; exact I.agree, by rw [hflo]; exact I.hold, by rw [hflo]; exact I.flo, by rw [hflo]; exact I.apart, I.defers⟩
 | true =>
  obtain ⟨x', hx', _, hlate, hwant, hlist⟩ := floB_inv hf
  rw [hx] at hx'; cases hx'
  obtain ⟨f1, f2, f3, f4, f5, f6, f7, f8⟩ := I.flo q hf
  have hnro : ¬ wb.ro (lf q).blk := fun e => f6 (w0.sub _ (by rw [← I.ro]; exact e))
  have hnk : ¬ (wb.del (lf q).blk hnro).kept (lf q).blk := fun e => e.2 rfl
  have H1 : HR (M ++ N) (wb.del (lf q).blk hnro) (Hp q) w := I.heap.rebase (fun i l hl ho e => (I.heap.blk i l hl).ge ho e.1) rfl ⟨I.heap.bel.os, I.heap.bel.tape, I.heap.bel.output, I.heap.bel.size, fun k hk => I.heap.bel.block k hk.1⟩
  have H2 : HR (M ++ N ++ [lf q]) (wb.del (lf q).blk hnro) ((Hp q).push (xf q)) w := H1.ext (lf q) (xf q) H1.bel (fun _ _ _ _ => rfl) (f7 [lf q] _ w f4 hnk) (fun _ b l' hb ho e => (I.heap.blk b l' hb).ge ho (e ▸ f5))
  have hid : (M ++ N ++ [lf q])[(Hp q).next]? = some (lf q) := get_new _ _ _ I.heap.len
  have hV : VR (M ++ N ++ [lf q]) (V q) (vf q) := by rw [f2]; exact f8 [lf q] _ hid
  obtain ⟨p1, p2⟩ := put_sound (I.frame.mono [lf q]) (dC C q) hV
  have hfq : floB P ops.toList C T listed (q + 1) q = false := floB_past (by omega)
  have hsub : ∀ p, floB P ops.toList C T listed (q + 1) p = true → floB P ops.toList C T listed q p = true ∧ p ≠ q := fun p h => by
   by_cases e : p = q
   ·subst e; rw [hfq] at h; cases h
   ·rw [floB_next e] at h; exact ⟨h, e⟩
  refine ⟨N ++ [lf q], wb.del (lf q).blk hnro, aB.put (dC C q) (vf q), I.size, I.edge, hql, hlow, heffs, by rw [f1, ← List.append_assoc]; exact H2, I.bel, fun k hk => ⟨I.kept k hk, fun e => f6 (e ▸ hk)⟩, I.ro, ?_, ?_, ?_, ?_, ?_, ?_, ?_, ?_⟩
  ·rw [← List.append_assoc]
   refine p1.ext fun t => ?_
   rw [get_putL]
   refine TL_ins (i := q) ?_ ?_ (fun j hj => ?_) t _ hql fun j hj1 hj2 hl => ?_
   ·unfold absB; rw [hx]; simp only [hf, Bool.not_true, Bool.and_false]
   ·unfold absB; rw [hx]; simp only [hfq, hlist, Bool.not_false, Bool.and_self]
   ·unfold absB; rw [floB_next hj]
   ·have hy : C[j]? = some (C[j]'hj2) := List.getElem?_eq_getElem _
    rw [dC_at hx, dC_at hy]
    exact (late_same hpos hx hy (by omega) hlate).1
  ·rw [I.asize]
   cases dC C q <;> simp [Act.put]
  ·rw [p2]; exact I.adef
  ·intro t hno
   by_cases e : dC C q = some t
   ·rw [e]
    by_cases c : t < aB.tmps.size
    ·rw [I.hold q t hf e (by rw [← I.frame.1]; exact c)]
     show _ = (aB.tmps.setIfInBounds t (vf q)).getD t undef
     rw [Array.getD_eq_getD_getElem?, Array.getElem?_setIfInBounds_self, if_pos c]; rfl
    ·show _ = (aB.tmps.setIfInBounds t (vf q)).getD t undef
     rw [Array.getD_eq_getD_getElem?, Array.getD_eq_getD_getElem?, Array.getElem?_eq_none (by rw [I.asize]; exact Nat.le_of_not_lt c), Array.getElem?_eq_none (by rw [Array.size_setIfInBounds]; exact Nat.le_of_not_lt c)]
   ·rw [I.agree t fun p hp => ?_]
    ·cases hd : dC C q with
     | none => rfl
     | some d =>
      show _ = (aB.tmps.setIfInBounds d (vf q)).getD t undef
      have hne : ¬ d = t := fun k => e (by rw [hd, k])
      rw [Array.getD_eq_getD_getElem?, Array.getD_eq_getD_getElem?, Array.getElem?_setIfInBounds_ne hne]
    ·by_cases k : p = q
     ·rw [k]; exact e
     ·exact hno p (by rw [floB_next k]; exact hp)
  ·exact fun p t hp => I.hold p t (hsub p hp).1
  ·intro p hp
   obtain ⟨hp', hne⟩ := hsub p hp
   obtain ⟨g1, g2, g3, g4, g5, g6, g7, g8⟩ := I.flo p hp'
   refine ⟨g1, g2, g3, g4, ⟨g5, I.apart p q hp' hf hne⟩, g6, fun N2 B w2 h1 h2 => ?_, fun N2 id h1 => ?_⟩
   ·have := g7 ([lf q] ++ N2) B w2 h1 h2
    rw [show M ++ (N ++ [lf q]) ++ N2 = M ++ N ++ ([lf q] ++ N2) by simp]; exact this
   ·rw [show M ++ (N ++ [lf q]) ++ N2 = M ++ N ++ ([lf q] ++ N2) by simp] at h1 ⊢
    exact g8 ([lf q] ++ N2) id h1
  ·exact fun p p' h1 h2 => I.apart p p' (hsub p h1).1 (hsub p' h2).1
  ·rw [← List.append_assoc]; exact I.defers.mono _
theorem absorb (ht : ∀ p x, C[p]? = some x → Tr P r nn ops.toList ms T Hp V p x.2) (hpos : ∀ p x, C[p]? = some x → Pos P ops.toList A C p x) : ∀ (n : Nat) (q : Nat) (N : List Loc) (wb : Base) (aB : Act), C.length - q ≤ n → Inv P ops C nn ms T Hp V M w0 listed a w q N wb aB xf gf lf of vf →
  ∃ q' N' wb' aB', Inv P ops C nn ms T Hp V M w0 listed a w q' N' wb' aB' xf gf lf of vf ∧ (q' < C.length → ∃ x, C[q']? = some x ∧ isChg P x.2 = true ∧ listed.getD x.1 false = false)
 | 0, q, N, wb, aB, hn, I => ⟨q, N, wb, aB, I, fun h => by omega⟩
 | n + 1, q, N, wb, aB, hn, I => by
  by_cases hql : q < C.length
  ·have hx : C[q]? = some (C[q]'hql) := List.getElem?_eq_getElem _
   by_cases hc : isChg P (C[q]'hql).2 = true ∧ listed.getD (C[q]'hql).1 false = false
   ·exact ⟨q, N, wb, aB, I, fun _ => ⟨_, hx, hc.1, hc.2⟩⟩
   ·obtain ⟨N', wb', aB', I'⟩ := absorb_step ht hpos I hx fun h => by
     cases hl : listed.getD (C[q]'hql).1 false with
     | true => rfl
     | false => exact absurd ⟨h, hl⟩ hc
    exact absorb ht hpos n (q + 1) N' wb' aB' (by omega) I'
  ·exact ⟨q, N, wb, aB, I, fun h => absurd h hql⟩
end
theorem getD_set {l : Array Bool} {i j : Nat} (hi : i < l.size) : (l.setIfInBounds i true).getD j false = if j = i then true else l.getD j false := by
 rw [Array.getD_eq_getD_getElem?, Array.getElem?_setIfInBounds, Array.getD_eq_getD_getElem?]
 by_cases e : j = i
 ·subst e; simp [hi]
 ·have : ¬ i = j := fun q => e q.symm
  simp [e, this]
theorem getD_free {l : Array Bool} {i : Nat} (hi : i < l.size) : l.getD i true = l.getD i false := by
 rw [Array.getD_eq_getD_getElem?, Array.getD_eq_getD_getElem?, Array.getElem?_eq_getElem hi]
 rfl
theorem getD_eq_get {a b : Array Value} (hs : a.size = b.size) {t : Nat} (h : a.getD t undef = b.getD t undef) : a[t]? = b[t]? := by
 rw [Array.getD_eq_getD_getElem?, Array.getD_eq_getD_getElem?] at h
 by_cases c : t < a.size
 ·have c2 : t < b.size := by rw [← hs]; exact c
  rw [Array.getElem?_eq_getElem c, Array.getElem?_eq_getElem c2] at h ⊢
  exact congrArg some h
 ·rw [Array.getElem?_eq_none (Nat.le_of_not_lt c), Array.getElem?_eq_none (by rw [← hs]; exact Nat.le_of_not_lt c)]
theorem wanted_agree {ops : Array Oper} {o : Oper} {a b : Array Value} (hs : a.size = b.size) (h : ∀ t ∈ usesL ops.toList o, a.getD t undef = b.getD t undef) : Region.wanted o (yielded ops a) = Region.wanted o (yielded ops b) := by
 unfold Region.wanted
 cases hg : o.guard with
 | none => rfl
 | some g =>
  obtain ⟨j, want⟩ := g
  simp only
  have : yielded ops a j = yielded ops b j := by
   unfold yielded
   rw [← dst_eq]
   cases hd : dstL ops.toList j with
   | none => rfl
   | some d =>
    simp only [Option.bind_some]
    rw [getD_eq_get hs (h d (by unfold usesL; rw [hg]; simp [hd]))]
  rw [this]
theorem eval_agree {all : List Oper} {o : Oper} {a b : Act} (h : ∀ t ∈ usesL all o, a.tmps.getD t undef = b.tmps.getD t undef) : ∀ x ∈ o.op.operands, a.eval x = b.eval x := by
 intro x hx
 cases x with
 | tmp t => exact h t (by unfold usesL; exact List.mem_append_right _ (mem_tmpsOf (Array.mem_toList_iff.2 hx)))
 | _ => rfl
theorem evO_nosel {P : Program} {r : Rec} {o : Oper} {st : St} {u : Value × Heap} (he : evO P r o st = some u) : (∀ c, o.op ≠ .defer c) ∧ ∀ cs b, o.op ≠ .select cs b := by
 constructor
 ·intro c e
  unfold evO at he
  rw [e] at he
  cases he
 ·intro cs b e
  unfold evO at he
  rw [e] at he
  cases he

theorem region_draw {P : Program} (hN : ∀ fn ∈ P.funcs.toList, fn.name ≠ "runtime.NumGoroutine") {r : Rec} (hF : SF P r) (hC : SC P r) {nn : Nat} {ops : Array Oper} {A : List Nat} {C : List (Nat × Oper)} {ms : List Nat} {T : Nat → Fr} {Hp : Nat → Heap} {V : Nat → Value} {M : List Loc} {w0 : Base} (n : Nat) (ro' : Option Nat)
  (hanc : ancGo ops.toList 0 [] = some A) (hcan : Can ops.toList C) (hpos : ∀ p x, C[p]? = some x → Pos P ops.toList A C p x) (ht : ∀ p x, C[p]? = some x → Tr P r nn ops.toList ms T Hp V p x.2)
  (hrd : ∀ p x, C[p]? = some x → wantedL ops.toList x.2 (T p) = true → cls P x.2.op = 1 → loOf P (A.getD x.1 0) C = hiOf P A x.1 C ∨ rdAt P r ⟨x.1, x.2, T p, V p⟩ ms ((([Hp 0] ++ ((List.range C.length).filter fun j => (C[j]?).any fun x => isChg P x.2).map (fun j => Hp (0 + j + 1))).drop (loOf P (A.getD x.1 0) C)).take (Nat.succ (hiOf P A x.1 C) - loOf P (A.getD x.1 0) C)) = true) :
  ∀ (fuel : Nat) (listed : Array Bool) (a : Act) (w : World), (∃ q N wb aB xf gf lf of vf, Inv P ops C nn ms T Hp V M w0 listed a w q N wb aB xf gf lf of vf ∧ (q < C.length → ∃ x, C[q]? = some x ∧ isChg P x.2 = true ∧ listed.getD x.1 false = false)) → (List.range ops.toList.length).countP (fun j => !listed.getD j false) ≤ fuel →
   wpAnyIn (FW ro') n P .any ops (PostC M w0 nn .normal ⟨T C.length, Hp C.length, ms⟩) fuel listed a w := by
 have hlen : ops.toList.length = ops.size := by simp
 have done : ∀ (listed : Array Bool) (a : Act) (w : World) q N wb aB xf gf lf of vf, Inv P ops C nn ms T Hp V M w0 listed a w q N wb aB xf gf lf of vf → (q < C.length → ∃ x, C[q]? = some x ∧ isChg P x.2 = true ∧ listed.getD x.1 false = false) → (∀ j, j < ops.toList.length → listed.getD j false = true) → PostC M w0 nn .normal ⟨T C.length, Hp C.length, ms⟩ .normal a w := by
  intro listed a w q N wb aB xf gf lf of vf I top hall
  have hqe : q = C.length := by
   rcases Nat.lt_or_ge q C.length with h | h
   ·obtain ⟨x, h1, _, h3⟩ := top h
    rw [hall x.1 (List.getElem?_eq_some_iff.1 (hcan.get h1)).1] at h3
    cases h3
   ·exact Nat.le_antisymm I.hq h
  have hnf : ∀ p, floB P ops.toList C T listed q p = false := fun p => by
   cases hf : floB P ops.toList C T listed q p with
   | false => rfl
   | true =>
    obtain ⟨x, h1, h2, _⟩ := floB_inv hf
    have := (List.getElem?_eq_some_iff.1 h1).1
    omega
  refine ⟨rfl, N, ?_, ?_, I.defers⟩
  ·show HR (M ++ N) w0 (Hp C.length) w
   rw [← hqe]
   refine I.heap.rebase (fun i l hl ho e => (I.heap.blk i l hl).ge ho (I.kept _ e)) I.ro.symm (I.bel.trans ⟨I.heap.bel.os, I.heap.bel.tape, I.heap.bel.output, I.heap.bel.size, fun k hk => I.heap.bel.block k (I.kept k hk)⟩)
  ·show FR (M ++ N) nn (T C.length) a.tmps
   rw [T_eq ht _ (Nat.le_refl _), ← TL_congr (L := absB P ops.toList C T listed q) (L' := fun _ => true) C.length fun j hj => ?_]
   ·refine ⟨I.asize.trans I.frame.1, fun t => ?_⟩
    rw [I.agree t fun p hp => by rw [hnf p] at hp; cases hp]
    exact I.frame.2 t
   ·have hx : C[j]? = some (C[j]'hj) := List.getElem?_eq_getElem _
    unfold absB
    rw [hx]
    simp only [hnf j, hall _ (List.getElem?_eq_some_iff.1 (hcan.get hx)).1, Bool.not_false, Bool.and_self]
 have nil_all : ∀ (listed : Array Bool), listed.size = ops.size → Region.ready .any ops listed = [] → ∀ j, j < ops.toList.length → listed.getD j false = true := by
  intro listed hs hr j
  induction j using Nat.strongRecOn with
  | _ j ih =>
   intro hj
   cases hl : listed.getD j false with
   | true => rfl
   | false =>
    have ho : ops.toList[j]? = some (ops.toList[j]'hj) := List.getElem?_eq_getElem _
    have : j ∈ Region.ready .any ops listed := mem_ready.2 ⟨by rw [getD_free (by omega)]; exact hl, _, by rw [← Array.getElem?_toList]; exact ho, fun e he hb => by
     have hlt := (edge_bit hanc ho e (Array.mem_toList_iff.2 he) hb).2
     exact ih e.on hlt (by omega)⟩
    rw [hr] at this
    cases this
 intro fuel
 induction fuel with
 | zero =>
  intro listed a w ⟨q, N, wb, aB, xf, gf, lf, of, vf, I, top⟩ hc
  have hall : ∀ j, j < ops.toList.length → listed.getD j false = true := fun j hj => by
   have h0 : (List.range ops.toList.length).countP (fun j => !listed.getD j false) = 0 := by omega
   rw [List.countP_eq_zero] at h0
   have := h0 j (List.mem_range.2 hj)
   simpa using this
  refine ⟨?_, done _ _ _ _ _ _ _ _ _ _ _ _ I top hall⟩
  cases hr : Region.ready .any ops listed with
  | nil => rfl
  | cons i l =>
   have hi : i ∈ Region.ready .any ops listed := by rw [hr]; exact List.mem_cons_self ..
   obtain ⟨h1, o, h2, _⟩ := mem_ready.1 hi
   have hsz : i < ops.size := (Array.getElem?_eq_some_iff.1 h2).1
   rw [getD_free (by rw [I.size]; exact hsz), hall i (by omega)] at h1
   cases h1
 | succ fuel ih =>
  intro listed a w ⟨q, N, wb, aB, xf, gf, lf, of, vf, I, top⟩ hc
  refine ⟨fun hr => done _ _ _ _ _ _ _ _ _ _ _ _ I top (nil_all _ I.size hr), fun i hi => ?_⟩
  obtain ⟨h1, o, h2, h3⟩ := mem_ready.1 hi
  have hsz : i < ops.size := (Array.getElem?_eq_some_iff.1 h2).1
  have hil : i < ops.toList.length := by omega
  have hLi : listed.getD i false = false := by rw [← getD_free (by rw [I.size]; exact hsz)]; exact h1
  have ho : ops.toList[i]? = some o := by rw [Array.getElem?_toList]; exact h2
  have h3' : ∀ e ∈ o.after.toList, Region.binds .any e = true → listed.getD e.on false = true := fun e he hb => h3 e (Array.mem_toList_iff.1 he) hb
  obtain ⟨p, hp⟩ := hcan.pos ho
  have hpl : p < C.length := (List.getElem?_eq_some_iff.1 hp).1
  have hbits : ∀ k, (A.getD i 0).testBit k = true → listed.getD k false = true := anc_listed hanc (fun k => listed.getD k false) I.edge (i + 1) i (by omega) o ho h3'
  have hcl : ∀ j o', ops.toList[j]? = some o' → listed.getD j false = true → ∀ k, (A.getD j 0).testBit k = true → listed.getD k false = true := fun j o' ho' hj =>
   anc_listed hanc (fun k => listed.getD k false) I.edge (j + 1) j (by omega) o' ho' (I.edge j o' ho' hj)
  -- whoever stands behind, and may not go ahead, has not run
  have later : ∀ j y, p < j → C[j]? = some y → (hitT o.dst (usesL ops.toList y.2) = true ∨ hitT y.2.dst (usesL ops.toList o) = true ∨ sameD o.dst y.2.dst = true ∨ (isChg P o = true ∧ isEff P y.2 = true)) → listed.getD y.1 false = false := by
   intro j y hj hy hor
   cases hl : listed.getD y.1 false with
   | false => rfl
   | true =>
    exfalso
    have h5 := (hpos j y hy).pair p (i, o) hj hp
    unfold pairOK at h5
    simp only [Bool.and_eq_true, Bool.or_eq_true, Bool.not_eq_true', Bool.or_eq_false_iff] at h5
    rcases h5.1 with h6 | h6
    ·have := hcl y.1 y.2 (hcan.get hy) hl i h6
     rw [hLi] at this; cases this
    ·obtain ⟨g1, g2, g3, g4⟩ := h6
     rcases hor with k | k | k | ⟨k, k'⟩
     ·rw [g1] at k; cases k
     ·rw [g3] at k; cases k
     ·rw [g2] at k; cases k
     ·rw [k, k'] at g4; cases g4
  have ahead : ∀ j y, j < p → C[j]? = some y → (hitT y.2.dst (usesL ops.toList o) = true ∨ (isChg P y.2 = true ∧ isEff P o = true)) → listed.getD y.1 false = true := by
   intro j y hj hy hor
   have h5 := (hpos p (i, o) hp).pair j y hj hy
   unfold pairOK at h5
   simp only [Bool.and_eq_true, Bool.or_eq_true, Bool.not_eq_true', Bool.or_eq_false_iff] at h5
   rcases h5.1 with h6 | h6
   ·exact hbits _ h6
   ·exfalso
    obtain ⟨g1, g2, g3, g4⟩ := h6
    rcases hor with k | ⟨k, k'⟩
    ·rw [g1] at k; cases k
    ·rw [k, k'] at g4; cases g4
  have hitU : ∀ (d : Option Tmp) (l : List Tmp) (t : Tmp), d = some t → t ∈ l → hitT d l = true := by
   intro d l t hd htl
   subst hd
   simp only [hitT, List.any_eq_true]
   exact ⟨t, htl, Nat.beq_refl t⟩
  -- none of those that float is looked at
  have nofl : ∀ t ∈ usesL ops.toList o, ∀ f, floB P ops.toList C T listed q f = true → dC C f ≠ some t := by
   intro t htu f hf hd
   obtain ⟨y, hy, hqf, hlate, _, hlist⟩ := floB_inv hf
   rw [dC_at hy] at hd
   have hit := hitU _ _ _ hd htu
   have hql : q < C.length := Nat.lt_of_le_of_lt hqf (List.getElem?_eq_some_iff.1 hy).1
   obtain ⟨z, hz, hzc, hzl⟩ := top hql
   have hqf' : q < f := by
    rcases Nat.lt_or_ge q f with h | h
    ·exact h
    ·have e : q = f := by omega
     subst e; rw [hy] at hz; cases hz; rw [hlist] at hzl; cases hzl
   rcases Nat.lt_trichotomy f p with h | h | h
   ·have := hbits _ ((hpos p (i, o) hp).cons f y h hy hlate hit q z hqf' hz hzc)
    rw [hzl] at this; cases this
   ·subst h; rw [hp] at hy; cases hy; rw [hLi] at hlist; cases hlist
   ·have := later f y h hy (.inr (.inl hit))
    rw [hlist] at this; cases this
  have hag : ∀ t ∈ usesL ops.toList o, a.tmps.getD t undef = aB.tmps.getD t undef := fun t htu => I.agree t fun f hf => nofl t htu f hf
  have huse : ∀ t ∈ usesL ops.toList o, Fr.get (TL nn (dC C) (T 0) V (absB P ops.toList C T listed q) C.length) t = Fr.get (T p) t := by
   intro t htu
   rw [TL_ge (i := p) _ (by omega) fun j hj1 hj2 hd => ?_, TL_le p fun j hj hd => ?_, ← T_eq ht p (by omega)]
   ·have hy : C[j]? = some (C[j]'(by omega)) := List.getElem?_eq_getElem _
    rw [dC_at hy] at hd
    have hl := ahead j _ hj hy (.inl (hitU _ _ _ hd htu))
    have hf : floB P ops.toList C T listed q j = false := by
     cases hf : floB P ops.toList C T listed q j with
     | false => rfl
     | true => exact absurd (by rw [dC_at hy]; exact hd) (nofl t htu j hf)
    unfold absB
    rw [hy]
    simp only [hl, hf, Bool.not_false, Bool.and_self]
   ·have hy : C[j]? = some (C[j]'hj2) := List.getElem?_eq_getElem _
    rw [dC_at hy] at hd
    have hl : listed.getD (C[j]'hj2).1 false = false := by
     by_cases e : j = p
     ·subst e; rw [hp] at hy; rw [← Option.some.inj hy]; exact hLi
     ·exact later j _ (by omega) hy (.inr (.inl (hitU _ _ _ hd htu)))
    unfold absB
    rw [hy]
    simp only [hl, Bool.false_and]
  have hqp : isEff P o = true → q = p := by
   intro he
   rcases Nat.lt_trichotomy q p with h | h | h
   ·obtain ⟨z, hz, hzc, hzl⟩ := top (by omega)
    have := ahead q z h hz (.inr ⟨hzc, he⟩)
    rw [hzl] at this; cases this
   ·exact h
   ·have := I.low p (i, o) hp (chg_eff he) h
    rw [hLi] at this; cases this
  have hqlate : isLate P o = true → q ≤ p := by
   intro he
   rcases Nat.lt_or_ge p q with h | h
   ·have := I.low p (i, o) hp (chg_late he) h
    rw [hLi] at this; cases this
   ·exact h
  have hsize' : (listed.setIfInBounds i true).size = ops.size := by rw [Array.size_setIfInBounds]; exact I.size
  have hset : ∀ j, (listed.setIfInBounds i true).getD j false = if j = i then true else listed.getD j false := fun j => getD_set (by rw [I.size]; exact hsz)
  have hsetp : ∀ j y, C[j]? = some y → j ≠ p → (listed.setIfInBounds i true).getD y.1 false = listed.getD y.1 false := fun j y hy hj => by
   rw [hset, if_neg fun e => hj (hcan.inj hy hp e)]
  have hseti : (listed.setIfInBounds i true).getD i false = true := by rw [hset, if_pos rfl]
  have hedge' : ∀ j o', ops.toList[j]? = some o' → (listed.setIfInBounds i true).getD j false = true → ∀ e ∈ o'.after.toList, Region.binds .any e = true → (listed.setIfInBounds i true).getD e.on false = true := by
   intro j o' hoj hl e he hbe
   rw [hset] at hl ⊢
   by_cases ee : e.on = i
   ·rw [if_pos ee]
   ·rw [if_neg ee]
    by_cases ej : j = i
    ·subst ej
     rw [ho] at hoj
     cases hoj
     exact h3' e he hbe
    ·rw [if_neg ej] at hl
     exact I.edge j o' hoj hl e he hbe
  have hcnt : (List.range ops.toList.length).countP (fun j => !(listed.setIfInBounds i true).getD j false) ≤ fuel := by
   have := countP_ins (fun j => !listed.getD j false) (fun j => !(listed.setIfInBounds i true).getD j false) i (by show (!listed.getD i false) = true; rw [hLi]; rfl) (by show (!(listed.setIfInBounds i true).getD i false) = false; rw [hseti]; rfl) (fun j hj => by show (!(listed.setIfInBounds i true).getD j false) = !listed.getD j false; rw [hset, if_neg hj]) ops.toList.length
   rw [if_pos hil] at this
   omega
  have hflo : ∀ q2 j, j ≠ p → floB P ops.toList C T (listed.setIfInBounds i true) q2 j = floB P ops.toList C T listed q2 j := fun q2 j hj => by
   unfold floB
   cases hy : C[j]? with
   | none => rfl
   | some y => simp only [hsetp j y hy hj]
  have hflop : floB P ops.toList C T listed q p = false := by
   cases hf : floB P ops.toList C T listed q p with
   | false => rfl
   | true => obtain ⟨y, hy, _, _, _, hl⟩ := floB_inv hf; rw [hp] at hy; cases hy; rw [hLi] at hl; cases hl
  have fin : ∀ q2 N2 wb2 aB2 xf2 gf2 lf2 of2 vf2 a2 w2, Inv P ops C nn ms T Hp V M w0 (listed.setIfInBounds i true) a2 w2 q2 N2 wb2 aB2 xf2 gf2 lf2 of2 vf2 → wpAnyIn (FW ro') n P .any ops (PostC M w0 nn .normal ⟨T C.length, Hp C.length, ms⟩) fuel (listed.setIfInBounds i true) a2 w2 := by
   intro q2 N2 wb2 aB2 xf2 gf2 lf2 of2 vf2 a2 w2 I2
   obtain ⟨q3, N3, wb3, aB3, I3, top3⟩ := absorb ht hpos (C.length - q2) q2 N2 wb2 aB2 (Nat.le_refl _) I2
   exact ih _ _ _ ⟨q3, N3, wb3, aB3, xf2, gf2, lf2, of2, vf2, I3, top3⟩ hcnt
  have hput : ∀ (b : Act) (v : Value) (t : Nat), o.dst ≠ some t → (b.put o.dst v).tmps.getD t undef = b.tmps.getD t undef := by
   intro b v t hne
   cases hd : o.dst with
   | none => rfl
   | some d =>
    show (b.tmps.setIfInBounds d v).getD t undef = _
    have : ¬ d = t := fun e => hne (by rw [hd, e])
    rw [Array.getD_eq_getD_getElem?, Array.getD_eq_getD_getElem?, Array.getElem?_setIfInBounds_ne this]
  have hputs : ∀ (b : Act) (v : Value), (b.put o.dst v).tmps.size = b.tmps.size ∧ (b.put o.dst v).defers = b.defers := by
   intro b v
   cases o.dst with
   | none => exact ⟨rfl, rfl⟩
   | some d => exact ⟨by show (b.tmps.setIfInBounds d v).size = _; simp, rfl⟩
  have hputd : ∀ (b : Act) (v : Value) (t : Nat), o.dst = some t → t < b.tmps.size → (b.put o.dst v).tmps.getD t undef = v := by
   intro b v t hd hlt
   rw [hd]
   show (b.tmps.setIfInBounds t v).getD t undef = v
   rw [Array.getD_eq_getD_getElem?, Array.getElem?_setIfInBounds_self, if_pos hlt]; rfl
  have hputo : ∀ (b : Act) (v : Value) (t : Nat), ¬ t < b.tmps.size → (b.put o.dst v).tmps.getD t undef = undef := by
   intro b v t hlt
   rw [Array.getD_eq_getD_getElem?, Array.getElem?_eq_none (by rw [(hputs b v).1]; exact Nat.le_of_not_lt hlt)]; rfl
  have hgo : ∀ (q2 : Nat) (N2 : List Loc) (w' : World) (v' : Value), (q2 = q ∧ isEff P o = false ∧ (isLate P o = false ∨ wantedL ops.toList o (T p) = false) ∨ q2 = q + 1 ∧ q = p) → HR (M ++ N ++ N2) wb (Hp q2) w' → VR (M ++ N ++ N2) (V p) v' →
    wpAnyIn (FW ro') n P .any ops (PostC M w0 nn .normal ⟨T C.length, Hp C.length, ms⟩) fuel (listed.setIfInBounds i true) (a.put o.dst v') w' := by
   intro q2 N2 w' v' hq2 hH hV
   have hfp : floB P ops.toList C T (listed.setIfInBounds i true) q2 p = false := by
    cases hf : floB P ops.toList C T (listed.setIfInBounds i true) q2 p with
    | false => rfl
    | true =>
     obtain ⟨y, hy, g1, g2, g3, _⟩ := floB_inv hf
     rw [hp] at hy; cases hy
     rcases hq2 with ⟨_, _, k | k⟩ | ⟨k1, k2⟩
     ·rw [g2] at k; cases k
     ·rw [g3] at k; cases k
     ·omega
   have hfl : floB P ops.toList C T (listed.setIfInBounds i true) q2 = floB P ops.toList C T listed q := by
    funext j
    by_cases e : j = p
    ·subst e; rw [hfp, hflop]
    ·rw [hflo q2 j e]
     rcases hq2 with ⟨k, _⟩ | ⟨k1, k2⟩
     ·rw [k]
     ·rw [k1]; exact floB_next (by omega)
   obtain ⟨p1, p2⟩ := put_sound (I.frame.mono N2) o.dst hV
   have hql2 : q2 ≤ C.length := by
    rcases hq2 with ⟨k, _⟩ | ⟨k1, k2⟩
    ·rw [k]; exact I.hq
    ·omega
   refine fin q2 (N ++ N2) wb (aB.put o.dst v') xf gf lf of vf _ _ ⟨hsize', hedge', hql2, ?_, ?_, by rw [← List.append_assoc]; exact hH, I.bel, I.kept, I.ro, ?_, ?_, ?_, ?_, ?_, ?_, ?_, ?_⟩
   ·intro j y hy hcj hj
    by_cases e : j = p
    ·subst e; rw [hp] at hy; cases hy; exact hseti
    ·rw [hsetp j y hy e]
     refine I.low j y hy hcj ?_
     rcases hq2 with ⟨k, _⟩ | ⟨k1, k2⟩ <;> omega
   ·intro j y hy hej hl
    by_cases e : j = p
    ·subst e; rw [hp] at hy; cases hy
     rcases hq2 with ⟨_, k, _⟩ | ⟨k1, k2⟩
     ·rw [hej] at k; cases k
     ·omega
    ·rw [hsetp j y hy e] at hl
     have := I.effs j y hy hej hl
     rcases hq2 with ⟨k, _⟩ | ⟨k1, k2⟩ <;> omega
   ·rw [← List.append_assoc]
    refine p1.ext fun t => ?_
    rw [get_putL]
    have hd : dC C p = o.dst := dC_at hp
    rw [← hd]
    refine TL_ins (i := p) ?_ ?_ (fun j hj => ?_) t _ hpl fun j hj1 hj2 hl => ?_
    ·unfold absB; rw [hp]; simp only [hLi, Bool.false_and]
    ·unfold absB; rw [hp]; simp only [hseti, hfp, Bool.not_false, Bool.and_self]
    ·unfold absB
     cases hy : C[j]? with
     | none => rfl
     | some y => simp only [hsetp j y hy hj, hfl]
    ·have hy : C[j]? = some (C[j]'hj2) := List.getElem?_eq_getElem _
     rw [hd, dC_at hy]
     cases hs : sameD o.dst (C[j]'hj2).2.dst with
     | false => rfl
     | true =>
      have := later j _ hj1 hy (.inr (.inr (.inl hs)))
      unfold absB at hl
      rw [hy] at hl
      simp only [this, Bool.false_and] at hl
      cases hl
   ·rw [(hputs a v').1, (hputs aB v').1]; exact I.asize
   ·rw [(hputs a v').2, (hputs aB v').2]; exact I.adef
   ·rw [hfl]
    intro t hno
    by_cases e : o.dst = some t
    ·by_cases c : t < aB.tmps.size
     ·rw [hputd a v' t e (by rw [I.asize]; exact c), hputd aB v' t e c]
     ·rw [hputo a v' t (by rw [I.asize]; exact c), hputo aB v' t c]
    ·rw [hput a v' t e, hput aB v' t e]; exact I.agree t hno
   ·rw [hfl]
    intro f t hf hd hlt
    obtain ⟨y, hy, _, hlate, _, _⟩ := floB_inv hf
    have hne : f ≠ p := fun e => by rw [e, hflop] at hf; cases hf
    rw [hput a v' t fun e => ?_]
    ·exact I.hold f t hf hd hlt
    ·have := (late_same hpos hy hp hne hlate).1
     rw [dC_at hy] at hd
     exact sameD_ne this hd e
   ·rw [hfl]
    intro f hf
    obtain ⟨g1, g2, g3, g4, g5, g6, g7, g8⟩ := I.flo f hf
    refine ⟨g1, g2, g3, ?_, g5, g6, fun N3 B w2 k1 k2 => ?_, fun N3 id k1 => ?_⟩
    ·rw [hH.bel.block _ g5, ← I.heap.bel.block _ g5]; exact g4
    ·have := g7 (N2 ++ N3) B w2 k1 k2
     rw [show M ++ (N ++ N2) ++ N3 = M ++ N ++ (N2 ++ N3) by simp]; exact this
    ·rw [show M ++ (N ++ N2) ++ N3 = M ++ N ++ (N2 ++ N3) by simp] at k1 ⊢
     exact g8 (N2 ++ N3) id k1
   ·rw [hfl]; exact I.apart
   ·rw [(hputs a v').2, ← List.append_assoc]; exact I.defers.mono N2
  unfold wpOpIn
  rw [h2]
  simp only
  rw [wanted_agree I.asize hag, wanted_eq I.frame, wanted_of_get huse]
  cases hw : wantedL ops.toList o (T p) with
  | false =>
   simp only [Bool.false_eq_true, if_false]
   obtain ⟨hv, hh⟩ := (ht p (i, o) hp).no hw
   refine ⟨fun _ _ => trivial, ?_⟩
   have hV0 : VR (M ++ N ++ []) (V p) undef := by rw [hv]; exact VR.undef _
   cases he : isEff P o with
   | true =>
    have := hqp he
    exact hgo (q + 1) [] w undef (.inr ⟨rfl, this⟩) (by rw [List.append_nil, this, hh, ← this]; exact I.heap) hV0
   | false => exact hgo q [] w undef (.inl ⟨rfl, he, .inr hw⟩) (by rw [List.append_nil]; exact I.heap) hV0
  | true =>
   simp only [if_true]
   have hev := (ht p (i, o) hp).yes hw
   have hx : ∀ x ∈ o.op.operands.toList, opnd (T p) x = opnd (TL nn (dC C) (T 0) V (absB P ops.toList C T listed q) C.length) x := opnd_of_get fun t htt => (huse t (by unfold usesL; exact List.mem_append_right _ htt)).symm
   have hnd := evO_nosel hev
   have run : ∀ q2, (q2 = q ∧ isEff P o = false ∧ (isLate P o = false ∨ wantedL ops.toList o (T p) = false) ∨ q2 = q + 1 ∧ q = p) → evO P r o ⟨T p, Hp q, ms⟩ = some (V p, Hp q2) → o.wpIn (FW ro') n P a w (wpAnyIn (FW ro') n P .any ops (PostC M w0 nn .normal ⟨T C.length, Hp C.length, ms⟩) fuel (listed.setIfInBounds i true)) (PostC M w0 nn .normal ⟨T C.length, Hp C.length, ms⟩) := by
    intro q2 hq2 key
    rw [evO_congr (tm' := TL nn (dC C) (T 0) V (absB P ops.toList C T listed q) C.length) (Hp q) ms ms hx] at key
    have hop : OpW P (M ++ N) wb n ro' o aB w (V p) (Hp q2) := evO_sound hN hF hC (st := ⟨_, Hp q, ms⟩) key n ro' I.heap I.frame
    exact (hop.congr (eval_agree hag) I.asize hnd.1 hnd.2) _ _ fun N2 w' v' r1 r2 => hgo q2 N2 w' v' hq2 r1 r2
   cases he : isEff P o with
   | true =>
    have e := hqp he
    refine run (q + 1) (.inr ⟨rfl, e⟩) ?_
    rw [e]; exact hev
   | false =>
    cases hlt : isLate P o with
    | true =>
     rcases Nat.lt_or_ge q p with hlt2 | hge
     ·have he' : evO P r o ⟨TL nn (dC C) (T 0) V (absB P ops.toList C T listed q) C.length, Hp p, ms⟩ = some (V p, Hp (p + 1)) := by
       rw [← evO_congr (tm := T p) (Hp p) ms ms hx]; exact hev
      obtain ⟨x, f, hu, _, hnew⟩ := late_new (M := M ++ N) (nn := nn) hlt he'
      obtain ⟨s, hs, l, obj, v', hrun, hblk, hown, hBR, hVR⟩ := hnew aB w I.frame
      have hVp : V p = f (Hp p).next := congrArg Prod.fst hu
      have hHp1 : Hp (p + 1) = (Hp p).push x := congrArg Prod.snd hu
      refine ⟨fun _ _ => trivial, ?_⟩
      rw [ro_defer hnd.1, execOp_congr o hnd.2 (eval_agree hag), hs]
      simp only [Sem.run_bind, hrun, Result.andThen_ok, Sem.run_pure]
      show wpAnyIn (FW ro') n P .any ops (PostC M w0 nn .normal ⟨T C.length, Hp C.length, ms⟩) fuel (listed.setIfInBounds i true) (a.put o.dst v') (w.alloc obj)
      have hbel2 : Bel w0 w0.w (w.alloc obj) := I.bel.trans ⟨(I.heap.bel.alloc obj).os, (I.heap.bel.alloc obj).tape, (I.heap.bel.alloc obj).output, (I.heap.bel.alloc obj).size, fun k hk => (I.heap.bel.alloc obj).block k (I.kept k hk)⟩
      have hsz2 : w.heap.size < (w.alloc obj).heap.size := by show w.heap.size < (w.heap.push obj).size; simp
      have hwk : ∀ j, wb.kept j → j < w.heap.size := fun j hj => by have := wb.lt j hj; have := I.heap.bel.size; omega
      have hw0k : ∀ j, w0.kept j → j < w.heap.size := fun j hj => hwk j (I.kept j hj)
      have hg1 : HR (M ++ N) wb (Hp q) (w.alloc obj) := ⟨I.heap.len, I.heap.live, fun b l' hl' => by
       by_cases d : (Hp q).get b = .dead
       ·rw [d]; trivial
       ·exact (I.heap.blk b l' hl').heap (Below.heap_alloc w obj l'.blk ((I.heap.blk b l' hl').lt d)), I.heap.inj, I.heap.bel.alloc obj⟩
      have hlk : l.blk < (w.alloc obj).heap.size := by rw [hblk]; exact hsz2
      have hfq : floB P ops.toList C T (listed.setIfInBounds i true) q p = true := floB_of hp (by omega) hlt hw hseti
      have habs : absB P ops.toList C T (listed.setIfInBounds i true) q = absB P ops.toList C T listed q := by
       funext j
       by_cases e : j = p
       ·subst e
        unfold absB
        rw [hp]
        simp only [hLi, hfq, Bool.not_true, Bool.and_false, Bool.false_and]
       ·unfold absB
        cases hy : C[j]? with
        | none => rfl
        | some y => simp only [hsetp j y hy e, hflo q j e]
      refine fin q N (wb.add (w.alloc obj) l.blk hlk (fun j hj => by have := hwk j hj; omega) (fun j hj => (I.heap.bel.alloc obj).block j (wb.sub j hj))) aB (fun j => if j = p then x else xf j) (fun j => if j = p then f else gf j) (fun j => if j = p then l else lf j) (fun j => if j = p then obj else of j) (fun j => if j = p then v' else vf j) _ _
       ⟨hsize', hedge', I.hq, ?_, ?_, ?_, hbel2, fun k hk => .inl (I.kept k hk), I.ro, by rw [habs]; exact I.frame, by rw [(hputs a v').1]; exact I.asize, by rw [(hputs a v').2]; exact I.adef, ?_, ?_, ?_, ?_, by rw [(hputs a v').2]; exact I.defers⟩
      ·intro j y hy hcj hj
       rw [hsetp j y hy (by omega)]
       exact I.low j y hy hcj hj
      ·intro j y hy hej hl
       by_cases e : j = p
       ·subst e; rw [hp] at hy; cases hy; rw [he] at hej; cases hej
       ·rw [hsetp j y hy e] at hl; exact I.effs j y hy hej hl
      ·refine hg1.rebase (fun b l' hl' hob e => ?_) rfl (Bel.refl _ _)
       rcases e with e | e
       ·exact (hg1.blk b l' hl').ge hob e
       ·have := (I.heap.blk b l' hl').lt (own_dead hob)
        omega
      ·intro t hno
       have hd : dC C p = o.dst := dC_at hp
       rw [hput a v' t (fun e => hno p hfq (by rw [hd]; exact e))]
       refine I.agree t fun j hj => hno j ?_
       have hne : j ≠ p := fun e => by rw [e, hflop] at hj; cases hj
       rw [hflo q j hne]; exact hj
      ·intro j t hj hd hltn
       by_cases e : j = p
       ·subst e
        simp only [if_true]
        rw [dC_at hp] at hd
        exact hputd a v' t hd (by rw [I.asize, I.frame.1]; exact hltn)
       ·simp only [e, if_false]
        rw [hflo q j e] at hj
        obtain ⟨y, hy, _, hlate, _, _⟩ := floB_inv hj
        rw [hput a v' t fun e2 => ?_]
        ·exact I.hold j t hj hd hltn
        ·have := (late_same hpos hy hp e hlate).1
         rw [dC_at hy] at hd
         exact sameD_ne this hd e2
      ·intro j hj
       by_cases e : j = p
       ·subst e
        simp only [if_true]
        exact ⟨hHp1, hVp, hown, by rw [hblk]; exact heap_new w obj, .inr rfl, fun k => by have := hw0k _ k; omega, hBR, hVR⟩
       ·simp only [e, if_false]
        rw [hflo q j e] at hj
        obtain ⟨g1, g2, g3, g4, g5, g6, g7, g8⟩ := I.flo j hj
        exact ⟨g1, g2, g3, by rw [Below.heap_alloc w obj _ (hwk _ g5)]; exact g4, .inl g5, g6, g7, g8⟩
      ·intro j j' hj hj' hne
       by_cases e : j = p
       ·by_cases e' : j' = p
        ·exact absurd (e.trans e'.symm) hne
        ·rw [hflo q j' e'] at hj'
         obtain ⟨_, _, _, _, g5, _⟩ := I.flo j' hj'
         simp only [e, e', if_true, if_false]
         have := hwk _ g5
         omega
       ·rw [hflo q j e] at hj
        obtain ⟨_, _, _, _, g5, _⟩ := I.flo j hj
        by_cases e' : j' = p
        ·simp only [e, e', if_true, if_false]
         have := hwk _ g5
         omega
        ·simp only [e, e', if_false]
         rw [hflo q j' e'] at hj'
         exact I.apart j j' hj hj' hne
     ·have e : q = p := by have := hqlate hlt; omega
      refine run (q + 1) (.inr ⟨rfl, e⟩) ?_
      rw [e]; exact hev
    | false =>
     refine run q (.inl ⟨rfl, he, .inl hlt⟩) ?_
     have hc2 : cls P o.op < 2 := isChg_false (by unfold isChg; rw [he, hlt]; rfl)
     by_cases hc0 : cls P o.op = 0
     ·exact evO_in hc0 _ _ hev _
     ·have hc1 : cls P o.op = 1 := by omega
      have hor := hrd p (i, o) hp hw hc1
      have lo1 : loOf P (A.getD i 0) C ≤ cntC P (C.take q) := lo_le fun j y hy hej hbj => I.effs j y hy hej (hbits _ hbj)
      have hi1 : cntC P (C.take q) ≤ hiOf P A i C := le_hi fun j y hy hcj hj => by
       cases hbt : (A.getD y.1 0).testBit i with
       | false => rfl
       | true =>
        have := hcl y.1 y.2 (hcan.get hy) (I.low j y hy hcj hj) i hbt
        rw [hLi] at this; cases this
      rcases hor with hor | hor
      ·have lo2 : loOf P (A.getD i 0) C ≤ cntC P (C.take p) := lo_le fun j y hy hej hbj => by
        obtain ⟨j2, y2, k1, k2, k3⟩ := (hpos p (i, o) hp).topo y.1 hbj
        have := hcan.inj k2 hy k3
        omega
       have hi2 : cntC P (C.take p) ≤ hiOf P A i C := le_hi fun j y hy hcj hj => by
        cases hbt : (A.getD y.1 0).testBit i with
        | false => rfl
        | true =>
         obtain ⟨j2, y2, k1, k2, k3⟩ := (hpos j y hy).topo i hbt
         have := hcan.inj k2 hp k3
         omega
       have heq : cntC P (C.take q) = cntC P (C.take p) := by
        simp only at hor
        omega
       have hHp : Hp p = Hp q := by
        rcases Nat.le_total q p with hqi | hqi
        ·exact Hp_same ht p hqi (by omega) (cntC_eq p hqi (by omega) heq)
        ·exact (Hp_same ht q hqi I.hq (cntC_eq q hqi I.hq heq.symm)).symm
       have h9 : Hp (p + 1) = Hp p := evO_same hc2 hev
       rw [show some (V p, Hp q) = some (V p, Hp (p + 1)) by rw [h9, ← hHp], ← hHp]
       exact hev
      ·have hmem : Hp q ∈ (([Hp 0] ++ ((List.range C.length).filter fun j => (C[j]?).any fun x => isChg P x.2).map (fun j => Hp (0 + j + 1))).drop (loOf P (A.getD i 0) C)).take (Nat.succ (hiOf P A i C) - loOf P (A.getD i 0) C) := by
        apply List.mem_of_getElem? (i := cntC P (C.take q) - loOf P (A.getD i 0) C)
        rw [List.getElem?_take_of_lt (by omega), List.getElem?_drop, show loOf P (A.getD i 0) C + (cntC P (C.take q) - loOf P (A.getD i 0) C) = cntC P (C.take q) by omega]
        exact hs_at ht q I.hq
       have h5 := rdAt_mem hor _ hmem
       unfold rdOne at h5
       simp only at h5
       cases h6 : evO P r o ⟨T p, Hp q, ms⟩ with
       | none => rw [h6] at h5; cases h5
       | some vh =>
        rw [h6] at h5
        simp only at h5
        have h7 := veq_eq h5
        have h8 : vh.2 = Hp q := evO_same hc2 h6
        obtain ⟨v1, v2⟩ := vh
        simp only at h7 h8
        rw [h7, h8]

theorem region_sound {P : Program} (hN : ∀ fn ∈ P.funcs.toList, fn.name ≠ "runtime.NumGoroutine") (hmix : P.follows .mixedOrders = true) {r : Rec} (hF : SF P r) (hC : SC P r) {nn : Nat} {ops : Array Oper} {draw : Bool} {st st' : St} {M : List Loc} {w0 : Base} {w : World} {a : Act} {id : Nat}
  (he : evRegion P r nn ops.toList draw st = some st') (n : Nat) (ro' : Option Nat) (hA : AR M w0 nn st a w) : (Code.region id ops draw).wpIn (FW ro') n P (PostC M w0 nn .normal st') a w := by
 unfold evRegion at he
 cases draw with
 | false =>
  simp only [cnd_false] at he
  refine wpIn_region ?_
  rw [List.range_eq_range', show ops.size = ops.toList.length by simp]
  exact evOps_sound hN hF hC ops n ro' _ ops.toList 0 st M a w rfl he hA fun N a' w' h => ⟨rfl, N, h⟩
 | true =>
  simp only [cnd_true] at he
  unfold regOK at he
  cases hanc : ancGo ops.toList 0 [] with
  | none => rw [hanc] at he; cases he
  | some A =>
   rw [hanc] at he
   simp only at he
   cases hpa : pairsAll P ops.toList A [] (canGo P A ops.toList 0 []) 0 with
   | false => rw [hpa] at he; cases he
   | true =>
    rw [hpa] at he
    simp only [cnd_true] at he
    have hcan : Can ops.toList (canGo P A ops.toList 0 []) := can_of ops.toList
    have hpos : ∀ p x, (canGo P A ops.toList 0 [])[p]? = some x → Pos P ops.toList A (canGo P A ops.toList 0 []) p x := fun p x hx => by
     have := pairsAll_spec hpa (fun j hj => by simp at hj) p x (by simpa using hx) (by simp)
     simpa using this
    generalize canGo P A ops.toList 0 [] = C at *
    cases htr : evTrace P r nn ops.toList C st [st.h] [] with
    | none => rw [htr] at he; cases he
    | some q =>
     obtain ⟨s', hs, rs⟩ := q
     rw [htr] at he
     simp only at he
     cases hok : rdsOK P r C A st.ms hs rs with
     | false => rw [hok] at he; cases he
     | true =>
      rw [hok] at he
      simp only [cnd_true, Option.some.injEq] at he
      subst he
      obtain ⟨T, Hp, V, t1, t2, t3, t4, t5, _, t7⟩ := trace_spec C 0 st [st.h] [] s' hs rs htr
      have ht : ∀ p x, C[p]? = some x → Tr P r nn ops.toList st.ms T Hp V p x.2 := fun p x hx => by
       have := t3 p x hx
       rwa [Nat.zero_add] at this
      rw [Nat.zero_add] at t4
      rw [t4]
      have hno : ∀ j, (Array.replicate ops.size false).getD j false = false := fun j => by
       rw [Array.getD_eq_getD_getElem?, Array.getElem?_replicate]
       split <;> rfl
      have hnf : ∀ p, floB P ops.toList C T (Array.replicate ops.size false) 0 p = false := fun p => by
       cases hf : floB P ops.toList C T (Array.replicate ops.size false) 0 p with
       | false => rfl
       | true => obtain ⟨x, _, _, _, _, hl⟩ := floB_inv hf; rw [hno] at hl; cases hl
      have I : Inv P ops C nn st.ms T Hp V M w0 (Array.replicate ops.size false) a { w with drawn := w.drawn + 1 } 0 [] w0 a (fun _ => .dead) (fun _ _ => undef) (fun _ => ⟨0, 0, 0, 0⟩) (fun _ => .map #[] 0) (fun _ => undef) := by
       refine ⟨by simp, fun j o ho hl => (by rw [hno] at hl; cases hl), Nat.zero_le _, fun p x hx hc hp => by omega, fun p x hx hc hl => (by rw [hno] at hl; cases hl), ?_, Bel.refl _ _, fun _ h => h, rfl, ?_, rfl, rfl, fun _ _ => rfl, fun p t hp => (by rw [hnf] at hp; cases hp), fun p hp => (by rw [hnf] at hp; cases hp), fun p p' hp => (by rw [hnf] at hp; cases hp), ?_⟩
       ·rw [List.append_nil, t2]; exact hA.1.drawn _
       ·rw [List.append_nil]
        have hz : ∀ k, TL nn (dC C) (T 0) V (absB P ops.toList C T (Array.replicate ops.size false) 0) k = T 0 := by
         intro k
         induction k with
         | zero => rfl
         | succ k ihk =>
          rw [TL, if_neg, ihk]
          unfold absB
          cases hy : C[k]? with
          | none => simp
          | some y => simp [hno]
        rw [hz, t1]
        exact hA.2.1
       ·rw [List.append_nil]; exact hA.2.2
      obtain ⟨q', N', wb', aB', I', top'⟩ := absorb ht hpos C.length 0 [] w0 a (by omega) I
      refine wpIn_region_any hmix ?_
      refine region_draw hN hF hC n ro' hanc hcan hpos ht (fun p x hx hw hc => ?_) _ _ _ _ ⟨q', N', wb', aB', _, _, _, _, _, I', top'⟩ ?_
      ·have hm := t7 p x hx (by rw [Nat.zero_add]; exact hw) hc
       have b2 := rdsOK_mem hok _ hm
       simp only [Nat.zero_add] at b2
       rw [t5, ← t2] at b2
       exact b2
      ·refine Nat.le_trans List.countP_le_length ?_
       simp
end Go.Proofs.YtddgcakiceodgaaGreat.EV
