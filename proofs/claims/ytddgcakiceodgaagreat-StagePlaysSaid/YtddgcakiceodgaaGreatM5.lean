/- EV, part 7: what the evaluator comes to, the model comes to: calls, regions in the text's order, code. -/
import Derived.Test.YtddgcakiceodgaaGreatM4
import Derived.RangeFuncCalls
import Derived.RangeFuncRecord
namespace Go.Proofs.YtddgcakiceodgaaGreat.EV
set_option linter.unusedVariables false
set_option linter.unusedSimpArgs false
open Go Go.RowKit

theorem arr2 {α : Type} {A : Array α} {x y : α} (h : A.toList = [x, y]) : A[0]? = some x ∧ A[1]? = some y := by
 rw [← Array.getElem?_toList, ← Array.getElem?_toList, h]; exact ⟨rfl, rfl⟩
theorem arr1 {α : Type} {A : Array α} {x : α} {l : List α} (h : A.toList = x :: l) : A[0]? = some x := by
 rw [← Array.getElem?_toList, h]; rfl
theorem arr1' {α : Type} {A : Array α} {x y : α} {l : List α} (h : A.toList = x :: y :: l) : A[1]? = some y := by
 rw [← Array.getElem?_toList, h]; rfl

section
variable {P : Program} {M : List Loc} {w0 : Base} {w : World} {h h' : Heap}

theorem builtin_sound (H : HR M w0 h w) {b : Builtin} {ts : Array TypeId} {args : List Value} {args' : Array Value} {v : Value} (ty : TypeId) (cs : Array Bool) (hl : LR M args args'.toList) (he : evBuiltin P h b ts.toList args = some (v, h')) :
  ∃ N w' v', (builtin b ts ty cs args').run P w = .ok (.value v') w' ∧ HR (M ++ N) w0 h' w' ∧ VR (M ++ N) v v' := by
 have val : ∀ s : Sem Value, builtin b ts ty cs args' = (do pure (Next.value (← s))) → (∃ N w' v', s.run P w = .ok v' w' ∧ HR (M ++ N) w0 h' w' ∧ VR (M ++ N) v v') → ∃ N w' v', (builtin b ts ty cs args').run P w = .ok (.value v') w' ∧ HR (M ++ N) w0 h' w' ∧ VR (M ++ N) v v' := by
  intro s hs ⟨N, w', v', h1, h2, h3⟩
  refine ⟨N, w', v', ?_, h2, h3⟩
  rw [hs]
  simp only [Sem.run_bind, h1, Result.andThen_ok, Sem.run_pure]
 unfold evBuiltin at he
 split at he
 ·rename_i st xt tl s x heq
  obtain ⟨us, l1, e1, v1, hl⟩ := hl.cons_inv
  obtain ⟨ux, l2, e2, v2, hl⟩ := hl.cons_inv
  rw [hl.nil_inv] at e2
  subst e2
  exact val _ rfl (append_sound H (arr1 heq) (arr1' heq) (arr2 e1).1 (arr2 e1).2 v1 v2 he)
 ·rename_i dt tl s x heq
  obtain ⟨us, l1, e1, v1, hl⟩ := hl.cons_inv
  obtain ⟨ux, l2, e2, v2, hl⟩ := hl.cons_inv
  rw [hl.nil_inv] at e2
  subst e2
  exact val _ rfl (copy_sound H (arr1 heq) (arr2 e1).1 (arr2 e1).2 v1 v2 he)
 ·rename_i t tl x heq
  obtain ⟨us, l1, e1, v1, hl⟩ := hl.cons_inv
  exact val _ rfl (len_sound H (arr1 heq) (arr1 e1) v1 he)
 ·rename_i t tl x heq
  obtain ⟨us, l1, e1, v1, hl⟩ := hl.cons_inv
  exact val _ rfl (cap_sound H (arr1 heq) (arr1 e1) v1 he)
 ·obtain ⟨us, l1, e1, v1, hl⟩ := hl.cons_inv
  obtain ⟨ux, l2, e2, v2, hl⟩ := hl.cons_inv
  rw [hl.nil_inv] at e2
  subst e2
  obtain ⟨p, q1, he⟩ := ob_inv he
  obtain ⟨q, q2, he⟩ := ob_inv he
  cases he
  rw [asIntV_inv q1] at v1
  rw [asIntV_inv q2] at v2
  rw [int_inv v1, int_inv v2] at e1
  refine val _ rfl ⟨[], w, _, ?_, by rw [List.append_nil]; exact H, .int _ _⟩
  unfold Builtin.max_
  rw [e1]
  simp only [List.foldlM_cons, List.foldlM_nil, Builtin.max2, Sem.run_bind, Sem.run_pure, Result.andThen_ok, cnd_true]
  by_cases c : q.2 > p.2
  ·rw [if_pos c, decide_eq_true c]; rfl
  ·rw [if_neg c, decide_eq_false c]; rfl
 ·obtain ⟨us, l1, e1, v1, hl⟩ := hl.cons_inv
  obtain ⟨ux, l2, e2, v2, hl⟩ := hl.cons_inv
  rw [hl.nil_inv] at e2
  subst e2
  obtain ⟨p, q1, he⟩ := ob_inv he
  obtain ⟨q, q2, he⟩ := ob_inv he
  cases he
  rw [asIntV_inv q1] at v1
  rw [asIntV_inv q2] at v2
  rw [int_inv v1, int_inv v2] at e1
  refine val _ rfl ⟨[], w, _, ?_, by rw [List.append_nil]; exact H, .int _ _⟩
  unfold Builtin.min_
  rw [e1]
  simp only [List.foldlM_cons, List.foldlM_nil, Builtin.min2, Sem.run_bind, Sem.run_pure, Result.andThen_ok, cnd_false]
  by_cases c : q.2 < p.2
  ·rw [if_pos c, decide_eq_true c]; rfl
  ·rw [if_neg c, decide_eq_false c]; rfl
 ·rename_i t tl m k heq
  obtain ⟨us, l1, e1, v1, hl⟩ := hl.cons_inv
  obtain ⟨ux, l2, e2, v2, hl⟩ := hl.cons_inv
  rw [hl.nil_inv] at e2
  subst e2
  exact val _ rfl (delete_sound H (arr1 heq) (arr2 e1).1 (arr2 e1).2 v1 v2 he)
 ·rename_i t tl x heq
  obtain ⟨us, l1, e1, v1, hl⟩ := hl.cons_inv
  exact val _ rfl (clear_sound H (arr1 heq) (arr1 e1) v1 he)
 ·cases he
end

abbrev FW (ro : Option Nat) : Fence := { fn := fun _ => True, depth := none, alive := false, round := ro }

noncomputable def PostV (M : List Loc) (w0 : Base) (h' : Heap) (v : Value) : Ending → World → Prop := fun e w' => ∃ N v', e = .returned v' ∧ HR (M ++ N) w0 h' w' ∧ VR (M ++ N) v v'
noncomputable def SFB (P : Program) (f : FuncId) (args : List Value) (h : Heap) (v : Value) (h' : Heap) : Prop := (∃ fn c, P.funcs[f]? = some fn ∧ fn.body = some c) ∧ ∀ (M : List Loc) (w0 : Base) (w : World) (args' : Array Value) (n : Nat), HR M w0 h w → LR M args args'.toList → CallsIn (FW none) n P f args' w (PostV M w0 h' v)
noncomputable def SFX (P : Program) (f : FuncId) (args : List Value) (h : Heap) (v : Value) (h' : Heap) : Prop := (∀ x ∈ args, ∃ k n, x = .int k n) ∧ (∀ b, v ≠ .bool b) ∧ h' = h ∧ ∃ v', (∀ (args' : Array Value) (w : World), args'.toList = args → (callFunc f args').run P w = .ok (.value v') w) ∧ ∀ M, VR M v v'
theorem LR.allI {M : List Loc} : ∀ {a b : List Value}, LR M a b → (∀ x ∈ a, ∃ k n, x = .int k n) → b = a
 | [], b, h, _ => h.nil_inv
 | x :: a, b, h, hi => by
  obtain ⟨y, r, e, k, l⟩ := h.cons_inv
  obtain ⟨kk, n, e2⟩ := hi x (List.mem_cons_self ..)
  subst e2
  have e3 := LR.allI l fun x hx => hi x (List.mem_cons_of_mem _ hx)
  rw [e, int_inv k, e3]
noncomputable def SF (P : Program) (r : Rec) : Prop := ∀ f args h v h', r.F f args h = some (v, h') → SFB P f args h v h' ∨ SFX P f args h v h'

noncomputable def DR (M : List Loc) : List Nat → List Deferred → Prop
 | [], [] => True
 | d :: ms, x :: ds => (∃ l, M[d]? = some l ∧ x = { target := .collected l.blk, args := #[] }) ∧ DR M ms ds
 | _, _ => False
theorem DR.mono {M : List Loc} (N : List Loc) : ∀ {ms : List Nat} {ds : List Deferred}, DR M ms ds → DR (M ++ N) ms ds
 | [], [], _ => trivial
 | _ :: _, _ :: _, ⟨⟨l, h1, h2⟩, h3⟩ => ⟨⟨l, pre_get h1, h2⟩, DR.mono N h3⟩
noncomputable def RO (M : List Loc) : Option Nat → Option Nat → Prop
 | none, none => True
 | some l, some l' => ∃ loc, M[l]? = some loc ∧ l' = loc.blk
 | _, _ => False
theorem RO.mono {M : List Loc} (N : List Loc) : ∀ {a b : Option Nat}, RO M a b → RO (M ++ N) a b
 | none, none, _ => trivial
 | some _, some _, ⟨l, h1, h2⟩ => ⟨l, pre_get h1, h2⟩

noncomputable def AR (M : List Loc) (w0 : Base) (nn : Nat) (st : St) (a : Act) (w : World) : Prop := HR M w0 st.h w ∧ FR M nn st.tm a.tmps ∧ DR M st.ms a.defers
noncomputable def PostC (M : List Loc) (w0 : Base) (nn : Nat) (e : Exit) (st' : St) : Exit → Act → World → Prop := fun e' a' w' => e' = e ∧ ∃ N, AR (M ++ N) w0 nn st' a' w'
noncomputable def SC (P : Program) (r : Rec) : Prop := ∀ ro nn c st e st', r.C ro nn c st = some (e, st') → ∀ (M : List Loc) (w0 : Base) (w : World) (a : Act) (ro' : Option Nat) (n : Nat), RO M ro ro' → AR M w0 nn st a w → c.wpIn (FW ro') n P (PostC M w0 nn e st') a w

theorem PostC.up {M : List Loc} (N : List Loc) {w0 : Base} {nn : Nat} {e : Exit} {st' : St} {e' : Exit} {a' : Act} {w' : World} (h : PostC (M ++ N) w0 nn e st' e' a' w') : PostC M w0 nn e st' e' a' w' := by
 obtain ⟨h1, N2, h2⟩ := h
 exact ⟨h1, N ++ N2, by rw [← List.append_assoc]; exact h2⟩

section
variable {P : Program} {M : List Loc} {w0 : Base} {w : World} {h h' : Heap}

theorem run_callFunc (hN : ∀ fn ∈ P.funcs.toList, fn.name ≠ "runtime.NumGoroutine") {f : FuncId} {fn : Func} {c : Code} (hf : P.funcs[f]? = some fn) (hb : fn.body = some c) (args : Array Value) (w : World) : (callFunc f args).run P w = .ok (.enter f args) w := by
 have hn : fn.name ≠ "runtime.NumGoroutine" := hN fn (by rw [← Array.getElem?_toList] at hf; exact List.mem_of_getElem? hf)
 have hn' : (fn.name == "runtime.NumGoroutine") = false := by simpa using hn
 simp only [callFunc, Sem.run_bind, run_program, Result.andThen_ok, hf, hn', Bool.false_eq_true, if_false, hb, Option.isNone_some, Sem.run_pure]

theorem setParams_sound {nn : Nat} : ∀ (ps : List (Tmp × Value)) (ps' : List (Tmp × Value)) (tm : Fr) (a : Array Value), ps.length = ps'.length → (∀ (i : Nat) (x y : Tmp × Value), ps[i]? = some x → ps'[i]? = some y → y.1 = x.1 ∧ VR M x.2 y.2) → FR M nn tm a → FR M nn (setParams nn ps tm) (ps'.foldl (fun (tmps : Array Value) (p : Tmp × Value) => tmps.setIfInBounds p.1 p.2) a)
 | [], [], tm, a, _, _, h => h
 | [], _ :: _, _, _, hl, _, _ => by simp at hl
 | _ :: _, [], _, _, hl, _, _ => by simp at hl
 | (t, v) :: ps, (t', v') :: ps', tm, a, hl, hr, h => by
  obtain ⟨h1, h2⟩ := hr 0 _ _ rfl rfl
  simp only at h1 h2
  subst h1
  exact setParams_sound ps ps' _ _ (by simpa using hl) (fun i x y hx hy => hr (i + 1) x y (by simpa using hx) (by simpa using hy)) (h.put t' h2)

theorem loopB_inv {u : Blk} {L : LoopA} (h : loopB u = some L) : u = .loop L := by
 unfold loopB at h
 split at h
 ·cases h; rfl
 ·cases h
theorem loop_at (H : HR M w0 h w) {r : Nat} {l : Loc} {L : LoopA} (hl : M[r]? = some l) (hg : h.get r = .loop L) : ¬ w0.kept l.blk ∧ ∃ L', w.heap[l.blk]? = some (.loop L') ∧ LoopR M L L' := by
 have := H.blk r l hl
 rw [hg] at this
 exact this
theorem run_getLoop {l : Nat} {L' : Loop} (hg : w.heap[l]? = some (.loop L')) : (Instr.getLoop l).run P w = .ok L' w := by
 simp only [Instr.getLoop, Sem.run_bind, getObj, Sem.run, hg, Result.andThen_ok, Sem.run_pure]
theorem run_setLoop {l : Nat} {L' : Loop} (hg : w.heap[l]? = some (.loop L')) (o : Obj) : (setObj l o).run P w = .ok () { w with heap := w.heap.setIfInBounds l o } := by
 simp only [setObj, Sem.run, hg]
theorem HR.put_loop (H : HR M w0 h w) {r : Nat} {l : Loc} {L : LoopA} {L2 : LoopA} {L2' : Loop} (hl : M[r]? = some l) (hg : h.get r = .loop L) (hr : LoopR M L2 L2') : HR M w0 (h.set r (.loop L2)) { w with heap := w.heap.setIfInBounds l.blk (.loop L2') } := by
 obtain ⟨h1, L', h2, h3⟩ := loop_at H hl hg
 have hlt : l.blk < w.heap.size := (Array.getElem?_eq_some_iff.1 h2).1
 exact H.put hl (by rw [hg]; rfl) ⟨h1, _, heap_put_self w _ _ hlt, hr⟩

theorem round_sound {r : Rec} (hC : SC P r) {l : Nat} {args : List Value} {v : Value} (he : evRound r l args h = some (v, h')) (n : Nat) {loc : Loc} (hloc : M[l]? = some loc) (H : HR M w0 h w) {args' : Array Value} (hl : LR M args args'.toList) :
  ∃ L' : Loop, w.heap[loc.blk]? = some (.loop L') ∧ args'.size = L'.params.size ∧ RoundIn (FW none) n P loc.blk L'.fn ((L'.params.zip args').foldl (fun tmps (t, a) => tmps.setIfInBounds t a) L'.tmps) L'.assign L'.body w (PostV M w0 h' v) := by
 obtain ⟨L, e1, he⟩ := ob_inv he
 obtain ⟨g1, he⟩ := gd_inv he
 obtain ⟨q1, e2, he⟩ := ob_inv he
 obtain ⟨g2, he⟩ := gd_inv he
 obtain ⟨L1, e3, he⟩ := ob_inv he
 obtain ⟨g3, he⟩ := gd_inv he
 obtain ⟨q2, e4, he⟩ := ob_inv he
 obtain ⟨j, e5, he⟩ := ob_inv he
 obtain ⟨L2, e6, he⟩ := ob_inv he
 obtain ⟨hB, L', hw, hR⟩ := loop_at H hloc (loopB_inv e1)
 have hsz : args'.size = L'.params.size := by
  rw [← Array.length_toList, ← Array.length_toList, ← hl.1, hR.params]; exact beq_inv g1
 refine ⟨L', hw, hsz, ?_⟩
 have hfr : FR M L.n (setParams L.n (L.params.zip args) L.tm) ((L'.params.zip args').foldl (fun tmps (t, a) => tmps.setIfInBounds t a) L'.tmps) := by
  rw [← Array.foldl_toList, Array.toList_zip, hR.params]
  refine setParams_sound _ _ _ _ (by simp [hl.1]) (fun i x y hx hy => ?_) hR.tmps
  rw [List.getElem?_zip_eq_some] at hx hy
  exact ⟨by have := hx.1.symm.trans hy.1; exact (Option.some.inj this).symm, hl.2 i _ _ hx.2 hy.2⟩
 obtain ⟨x1, s1⟩ := q1
 obtain ⟨x2, s2⟩ := q2
 have hx1 : x1 = .normal := by cases x1 <;> first | rfl | cases g2
 subst hx1
 have hA := hC _ _ _ _ _ _ e2 M w0 w { tmps := (L'.params.zip args').foldl (fun tmps (t, a) => tmps.setIfInBounds t a) L'.tmps, defers := [] } (some loc.blk) n ⟨loc, hloc, rfl⟩ ⟨H, hfr, trivial⟩
 rw [← hR.assign] at hA
 refine roundIn_of_wpIn (F := FW none) trivial (wpIn_mono hA ?_)
 rintro e a1 w1 ⟨rfl, N1, H1, F1, D1⟩
 have hloc1 := pre_get (N := N1) hloc
 obtain ⟨hB1, L1', hw1, hR1⟩ := loop_at H1 hloc1 (loopB_inv e3)
 have hready : L1'.state = .ready := by
  rw [hR1.state]
  cases hs : L1.state <;> rw [hs] at g3 <;> first | rfl | cases g3
 have H2 := H1.put_loop (L2 := { L1 with state := .busy }) (L2' := { L1' with state := .busy }) hloc1 (loopB_inv e3) ⟨rfl, hR1.pending, hR1.tmps, hR1.params, hR1.assign, hR1.body, hR1.defers⟩
 refine ⟨{ w1 with heap := w1.heap.setIfInBounds loc.blk (.loop { L1' with state := .busy }) }, ?_, ?_⟩
 ·simp only [Instr.beginRound, Sem.run_bind, run_getLoop hw1, Result.andThen_ok, run_setLoop hw1, hready, Sem.run_pure]
 ·have hBd := hC _ _ _ _ _ _ e4 (M ++ N1) w0 _ a1 (some loc.blk) n ⟨loc, hloc1, rfl⟩ ⟨H2, F1, D1⟩
  rw [← hR.body] at hBd
  refine wpIn_mono hBd ?_
  rintro e a2 w2 ⟨rfl, N2, H3, F3, D3⟩
  have hloc2 := pre_get (N := N2) hloc1
  obtain ⟨hB2, L2', hw2, hR2⟩ := loop_at H3 hloc2 (loopB_inv e6)
  cases he
  have fin : ∃ v w', (Instr.endRound loc.blk j).run P w2 = .ok v w' ∧ PostV M w0 (s2.h.set l (.loop { L2 with state := cnd j.isNone .ready .done, pending := j })) (.bool j.isNone) (.returned v) w' := by
   refine ⟨.bool j.isNone, { w2 with heap := w2.heap.setIfInBounds loc.blk (.loop { L2' with state := if j.isNone then .ready else .done, pending := j }) }, ?_, N1 ++ N2, _, rfl, ?_, .bool _⟩
   ·simp only [Instr.endRound, Sem.run_bind, run_getLoop hw2, Result.andThen_ok, run_setLoop hw2, Sem.run_pure]
   ·rw [← List.append_assoc]
    refine H3.put_loop (L2 := { L2 with state := cnd j.isNone .ready .done, pending := j }) hloc2 (loopB_inv e6) ⟨?_, rfl, hR2.tmps, hR2.params, hR2.assign, hR2.body, hR2.defers⟩
    cases j <;> rfl
  cases e with
  | normal => cases e5; exact fin
  | ret => cases e5; exact fin
  | exit id => cases e5; exact fin
  | goto t => cases e5; exact fin
  | panic _ => cases e5
  | outgrown => cases e5

noncomputable def PR (M : List Loc) : PlV → Place → Prop
 | .val v, .val v' => VR M v v'
 | .var b o, .var a => ∃ l, M[b]? = some l ∧ a = ⟨l.blk, l.sh + o, none⟩
 | _, _ => False
theorem plGet_sound (H : HR M w0 h w) {t : TypeId} {x : PlV} {x' : Place} {v : Value} (hx : PR M x x') (he : plGet P h t x = some v) : ∃ v', (x'.get t).run P w = .ok v' w ∧ VR M v v' := by
 cases x with
 | val u =>
  cases x' with
  | val u' => cases he; exact ⟨u', rfl, hx⟩
  | var a => exact hx.elim
 | var b o =>
  cases x' with
  | val u' => exact hx.elim
  | var a =>
   obtain ⟨l, hl, rfl⟩ := hx
   have hp : VR M (.pointer (some ⟨b, o, none⟩)) (.pointer (some ⟨l.blk, l.sh + o, none⟩)) := .ptr b o l hl
   obtain ⟨ag, h5, h6⟩ := ob_inv he
   cases ag with
   | true =>
    simp only [cnd_true] at h6
    obtain ⟨n, h7, h6⟩ := ob_inv h6
    obtain ⟨c, h8, h6⟩ := ob_inv h6
    cases h6
    obtain ⟨c', h9, h10⟩ := op_load_agg (P := P) H hp h5 h7 h8
    exact ⟨_, h9, h10⟩
   | false =>
    simp only [cnd_false] at h6
    obtain ⟨v', h9, h10⟩ := op_load_one (P := P) H hp h5 h6
    exact ⟨_, h9, h10⟩
theorem run_fieldPlace {f : Field} {n : Nat} (hs : sizeT P f.type = some n) (hn : (!Nat.beq n 0) = true) (a : Addr) : (fieldPlace a f).run P w = .ok (a.add f.offset) w := by
 have hn' : n ≠ 0 := by intro e; subst e; cases hn
 simp only [fieldPlace, Sem.run_bind, run_sizeOf hs, Result.andThen_ok, hn', if_false, Sem.run_pure]
theorem follow_sound (H : HR M w0 h w) : ∀ (path : List FieldStep) (t : TypeId) (x : PlV) (x' : Place) (q : TypeId × PlV), PR M x x' → followV P h path t x = some q → ∃ y', (follow path t x').run P w = .ok (q.1, y') w ∧ PR M q.2 y'
 | [], t, x, x', q, hx, he => by cases he; exact ⟨x', rfl, hx⟩
 | s :: rest, t, x, x', q, hx, he => by
  obtain ⟨d, h1, he⟩ := ob_inv he
  obtain ⟨fs, h2, he⟩ := ob_inv he
  obtain ⟨f, h3, he⟩ := ob_inv he
  obtain ⟨y, h4, he⟩ := ob_inv he
  obtain ⟨fs', hd, rfl⟩ : ∃ fs', d = .struct fs' ∧ fs = fs'.toList := by
   unfold structE at h2
   split at h2
   ·cases h2; exact ⟨_, rfl, rfl⟩
   ·cases h2
  rw [hd] at h1
  have h3' : fs'[s.index]? = some f := by simpa using h3
  unfold plStep at h4
  simp only [follow, Sem.run_bind, run_underlying h1, Result.andThen_ok, h3']
  cases hdr : s.deref with
  | true =>
   rw [hdr] at h4
   simp only [cnd_true] at h4
   obtain ⟨v, g1, h4⟩ := ob_inv h4
   obtain ⟨p, g2, h4⟩ := ob_inv h4
   obtain ⟨n, g3, h4⟩ := ob_inv h4
   obtain ⟨g4, h4⟩ := gd_inv h4
   cases h4
   obtain ⟨v', r1, r2⟩ := plGet_sound H hx g1
   rw [asPtr_inv g2] at r2
   obtain ⟨l, hl, rfl⟩ := ptr_inv r2
   obtain ⟨y', r3, r4⟩ := follow_sound H rest f.type (.var p.1 (p.2 + f.offset)) (.var ⟨l.blk, l.sh + (p.2 + f.offset), none⟩) q ⟨l, hl, rfl⟩ he
   refine ⟨y', ?_, r4⟩
   simp only [if_true, r1, Sem.run_bind, Result.andThen_ok, asAddr, Sem.run_pure, run_fieldPlace g3 g4, addr_add, Nat.add_assoc]
   exact r3
  | false =>
   rw [hdr] at h4
   simp only [cnd_false] at h4
   cases x with
   | var b o =>
    cases x' with
    | val u' => exact hx.elim
    | var a =>
     obtain ⟨l, hl, rfl⟩ := hx
     simp only at h4
     obtain ⟨n, g3, h4⟩ := ob_inv h4
     obtain ⟨g4, h4⟩ := gd_inv h4
     cases h4
     obtain ⟨y', r3, r4⟩ := follow_sound H rest f.type (.var b (o + f.offset)) (.var ⟨l.blk, l.sh + (o + f.offset), none⟩) q ⟨l, hl, rfl⟩ he
     refine ⟨y', ?_, r4⟩
     simp only [Bool.false_eq_true, if_false, Sem.run_bind, Result.andThen_ok, Sem.run_pure, run_fieldPlace g3 g4, addr_add, Nat.add_assoc]
     exact r3
   | val u =>
    cases x' with
    | var a => exact hx.elim
    | val u' =>
     simp only at h4
     obtain ⟨cs, g3, h4⟩ := ob_inv h4
     obtain ⟨u2, g4, h4⟩ := ob_inv h4
     cases h4
     have hx' : VR M u u' := hx
     obtain ⟨csA, hu, hcs⟩ : ∃ csA, u = .agg csA ∧ cs = csA.toList := by
      unfold asAggV at g3
      split at g3
      ·cases g3; exact ⟨_, rfl, rfl⟩
      ·cases g3
     rw [hu] at hx'
     obtain ⟨cs', rfl, hc⟩ := agg_inv hx'
     rw [hcs] at g4
     obtain ⟨v', r1, r2⟩ := part_sound (w := w) hc g4
     obtain ⟨y', r3, r4⟩ := follow_sound H rest f.type (.val u2) (.val v') q r2 he
     refine ⟨y', ?_, r4⟩
     simp only [Bool.false_eq_true, if_false, Sem.run_bind, r1, Result.andThen_ok]
     exact r3
theorem recv_sound (H : HR M w0 h w) {xt : TypeId} {x : PlV} {x' : Place} {pr : Bool} {v : Value} (wr : Option String) (hx : PR M x x') (he : recvV P h xt x pr = some v) : ∃ v', (receiverAt xt x' pr wr).run P w = .ok v' w ∧ VR M v v' := by
 obtain ⟨d, h1, he⟩ := ob_inv he
 cases hd : isPtrD d with
 | true =>
  rw [hd] at he
  simp only [cnd_true] at he
  obtain ⟨g1, he⟩ := gd_inv he
  obtain ⟨v', r1, r2⟩ := plGet_sound H hx he
  refine ⟨v', ?_, r2⟩
  cases d <;> cases hd
  rw [g1]
  simp only [receiverAt, Sem.run_bind, run_underlying h1, Result.andThen_ok]
  exact r1
 | false =>
  rw [hd] at he
  simp only [cnd_false] at he
  cases pr with
  | true =>
   simp only [cnd_true] at he
   cases x with
   | val u => cases he
   | var b o =>
    cases x' with
    | val u' => exact hx.elim
    | var a =>
     obtain ⟨l, hl, rfl⟩ := hx
     cases he
     refine ⟨.pointer (some ⟨l.blk, l.sh + o, none⟩), ?_, .ptr b o l hl⟩
     simp only [receiverAt, Sem.run_bind, run_underlying h1, Result.andThen_ok]
     cases d <;> first | (cases hd; done) | rfl
  | false =>
   simp only [cnd_false] at he
   obtain ⟨v', r1, r2⟩ := plGet_sound H hx he
   refine ⟨v', ?_, r2⟩
   simp only [receiverAt, Sem.run_bind, run_underlying h1, Result.andThen_ok]
   cases d <;> first | (cases hd; done) | exact r1
theorem meth_sound (H : HR M w0 h w) : ∀ (k n : Nat) (t : TypeId) (v v' : Value) (name : String) (fx : FuncId × Value), k ≤ n → VR M v v' → methV P h k t v name = some fx → ∃ x', (method n t v' name).run P w = .ok (fx.1, x') w ∧ VR M fx.2 x'
 | 0, n, t, v, v', name, fx, _, _, he => by cases he
 | k + 1, 0, t, v, v', name, fx, hk, _, he => by omega
 | k + 1, n + 1, t, v, v', name, fx, hk, hv, he => by
  simp only [methV] at he
  obtain ⟨i, h1, he⟩ := ob_inv he
  obtain ⟨m, h2, he⟩ := ob_inv he
  obtain ⟨q, h3, he⟩ := ob_inv he
  have h2' : i.methods.find? (·.name == name) = some m := by rw [← h2]; simp
  obtain ⟨y', r1, r2⟩ := follow_sound H m.path.toList t (.val v) (.val v') q hv h3
  simp only [method, Sem.run_bind, run_typeInfo h1, Result.andThen_ok, h2', r1]
  cases hm : m.func with
  | none =>
   rw [hm] at he
   simp only at he ⊢
   obtain ⟨u, h4, he⟩ := ob_inv he
   obtain ⟨tv, h5, he⟩ := ob_inv he
   obtain ⟨u', r3, r4⟩ := plGet_sound H r2 h4
   have hu : u = .iface tv.1 tv.2 := by
    unfold ifaceV at h5
    split at h5
    ·cases h5; rfl
    ·cases h5
   rw [hu] at r4
   obtain ⟨z', rfl, r5⟩ : ∃ z', u' = .iface tv.1 z' ∧ VR M tv.2 z' := by
    cases r4 with
    | iface _ _ z' hz => exact ⟨z', rfl, hz⟩
   simp only [Sem.run_bind, r3, Result.andThen_ok]
   exact meth_sound H k n _ _ _ name fx (by omega) r5 he
  | some fp =>
   rw [hm] at he
   obtain ⟨f, pr⟩ := fp
   simp only at he ⊢
   obtain ⟨x, h4, he⟩ := ob_inv he
   cases he
   obtain ⟨x', r3, r4⟩ := recv_sound H (if m.path.isEmpty then some ((name.splitOn ".").getLastD name) else none) r2 h4
   refine ⟨x', ?_, r4⟩
   simp only [Sem.run_bind, r3, Result.andThen_ok, Sem.run_pure]

noncomputable def OpW (P : Program) (M : List Loc) (w0 : Base) (n : Nat) (ro' : Option Nat) (o : Oper) (a : Act) (w : World) (v : Value) (h' : Heap) : Prop :=
 ∀ (K : Act → World → Prop) (Q : Exit → Act → World → Prop), (∀ N w' v', HR (M ++ N) w0 h' w' → VR (M ++ N) v v' → K (a.put o.dst v') w') → o.wpIn (FW ro') n P a w K Q

theorem ro_defer {ro' : Option Nat} {o : Oper} {ρ : Operand → Value} (h : ∀ c, o.op ≠ .defer c) : o.semAt ro' ρ = execOp ρ o := Oper.semAt_eq ro' ρ o h

theorem evO_sound (hN : ∀ fn ∈ P.funcs.toList, fn.name ≠ "runtime.NumGoroutine") {r : Rec} (hF : SF P r) (hC : SC P r) {nn : Nat} {o : Oper} {st : St} {v : Value} {a : Act} (he : evO P r o st = some (v, h')) (n : Nat) (ro' : Option Nat) (H : HR M w0 st.h w) (ha : FR M nn st.tm a.tmps) : OpW P M w0 n ro' o a w v h' := by
 intro K Q hK
 have hd : ∀ c, o.op ≠ .defer c := by
  intro c e
  unfold evO at he
  rw [e] at he
  cases he
 refine ⟨fun _ _ => trivial, ?_⟩
 rw [ro_defer hd]
 by_cases hcall : ∃ c, o.op = .call c
 ·obtain ⟨c, hop⟩ := hcall
  have hx : execOp a.eval o = (do let d ← resolve a.eval c o.type; invoke d.target d.args) := by unfold execOp; rw [hop]
  unfold evO at he
  rw [hop] at he
  obtain ⟨args, e1, he⟩ := ob_inv he
  have hl := opnds_sound ha e1
  have hl' : LR M args (c.args.map a.eval).toList := by rw [Array.toList_map]; exact hl
  rw [hx]
  cases hcal : c.callee with
  | builtin b =>
   rw [hcal] at he
   obtain ⟨N, w', v', r1, r2, r3⟩ := builtin_sound H o.type (c.args.map fun | .const _ => true | _ => false) hl' he
   have : (do let d ← resolve a.eval c o.type; invoke d.target d.args : Sem Next).run P w = .ok (.value v') w' := by
    simp only [resolve, hcal, Sem.run_bind, Sem.run_pure, Result.andThen_ok, invoke]
    exact r1
   rw [this]
   exact hK N w' v' r2 r3
  | value f =>
   rw [hcal] at he
   obtain ⟨fv, e2, he⟩ := ob_inv he
   have hfv := opnd_sound ha e2
   cases fv with
   | func g fa fb =>
    cases g with
    | func g =>
     obtain ⟨fa', fb', hfe, la, lb⟩ : ∃ fa' fb', a.eval f = .func (.func g) fa' fb' ∧ LR M fa.toList fa'.toList ∧ LR M fb.toList fb'.toList := by
      generalize a.eval f = y at hfv
      cases hfv with
      | fn _ _ _ a' b' s1 s2 s3 s4 => exact ⟨a', b', rfl, ⟨s1, s3⟩, ⟨s2, s4⟩⟩
     have hargs : LR M (fa.toList ++ args ++ fb.toList) ((fa' ++ c.args.map a.eval) ++ fb').toList := by
      rw [Array.toList_append, Array.toList_append]; exact (la.append hl').append lb
     rcases hF _ _ _ _ _ he with ⟨⟨fn, cd, q1, q2⟩, hcalls⟩ | ⟨x1, _, x3, v', x4, x5⟩
     rotate_left
     ·subst x3
      have : (do let d ← resolve a.eval c o.type; invoke d.target d.args : Sem Next).run P w = .ok (.value v') w := by
       simp only [resolve, hcal, hfe, Deferred.ofValue, Sem.run_bind, Sem.run_pure, Result.andThen_ok, invoke]
       exact x4 _ w (hargs.allI x1)
      rw [this]
      exact hK [] w v' (by rw [List.append_nil]; exact H) (x5 _)
     have : (do let d ← resolve a.eval c o.type; invoke d.target d.args : Sem Next).run P w = .ok (.enter g ((fa' ++ c.args.map a.eval) ++ fb')) w := by
      simp only [resolve, hcal, hfe, Deferred.ofValue, Sem.run_bind, Sem.run_pure, Result.andThen_ok, invoke]
      exact run_callFunc hN q1 q2 _ w
     rw [this]
     refine ⟨(fun q => by cases q), ?_⟩
     refine CallsIn.mono (hcalls M w0 w _ (n - 1) H hargs) ?_
     rintro e w' ⟨N, v', rfl, r1, r2⟩
     exact hK N w' v' r1 r2
    | yield l =>
     obtain ⟨g1, he⟩ := gd_inv he
     simp only [Bool.and_eq_true, List.isEmpty_iff] at g1
     obtain ⟨loc, hloc, hfe⟩ : ∃ loc, M[l]? = some loc ∧ a.eval f = .func (.yield loc.blk) #[] #[] := by
      generalize a.eval f = y at hfv
      cases hfv with
      | yld y l h => exact ⟨l, h, rfl⟩
     obtain ⟨L', hw, hsz, hround⟩ := round_sound hC he (n - 1) hloc H hl'
     have : (do let d ← resolve a.eval c o.type; invoke d.target d.args : Sem Next).run P w = .ok (.round loc.blk L'.fn ((L'.params.zip (c.args.map a.eval)).foldl (fun tmps (t, a) => tmps.setIfInBounds t a) L'.tmps) L'.assign L'.body) w := by
      simp only [resolve, hcal, hfe, Deferred.ofValue, Sem.run_bind, Sem.run_pure, Result.andThen_ok, invoke, Instr.yield, Array.empty_append, run_getLoop hw]
      rw [if_neg (by rw [hsz]; simp)]
      rfl
     rw [this]
     refine ⟨(fun q => by cases q), ?_⟩
     refine RoundIn.mono (F := FW ro') hround ?_
     rintro e w' ⟨N, v', rfl, r1, r2⟩
     exact hK N w' v' r1 r2
    | _ => cases he
   | _ => cases he
  | invoke x m =>
   rw [hcal] at he
   obtain ⟨xv, e2, he⟩ := ob_inv he
   obtain ⟨tv, e3, he⟩ := ob_inv he
   obtain ⟨fx, e4, he⟩ := ob_inv he
   have hxv := opnd_sound ha e2
   have hu : xv = .iface tv.1 tv.2 := by
    unfold ifaceV at e3
    split at e3
    ·cases e3; rfl
    ·cases e3
   rw [hu] at hxv
   obtain ⟨z', hz, r5⟩ : ∃ z', a.eval x = .iface tv.1 z' ∧ VR M tv.2 z' := by
    generalize a.eval x = y at hxv
    cases hxv with
    | iface _ _ z' hz => exact ⟨z', rfl, hz⟩
   obtain ⟨x', s1, s2⟩ := meth_sound (P := P) H 20 (P.types.size + Made.depth) _ _ _ m fx (by unfold Made.depth; omega) r5 e4
   have hargs : LR M (fx.2 :: args) (#[x'] ++ c.args.map a.eval).toList := by
    rw [Array.toList_append]; exact LR.cons s2 hl'
   rcases hF _ _ _ _ _ he with ⟨⟨fn, cd, q1, q2⟩, hcalls⟩ | ⟨x1, _, x3, v', x4, x5⟩
   rotate_left
   ·subst x3
    have : (do let d ← resolve a.eval c o.type; invoke d.target d.args : Sem Next).run P w = .ok (.value v') w := by
     have ex : ∀ (y : Value) (l : Array Value), (#[y] ++ l).extract 1 (#[y] ++ l).size = l := fun y l => by
      apply Array.toList_inj.1
      simp [List.extract_eq_drop_take']
     have e0 : ∀ (y : Value) (l : Array Value), (#[y] ++ l)[0]? = some y := fun y l => by rw [Array.getElem?_append_left (by simp)]; rfl
     simp only [resolve, hcal, Sem.run_bind, Sem.run_pure, Result.andThen_ok, invoke]
     rw [e0, ex, hz]
     simp only [callMethod, Sem.run_bind, run_program, Result.andThen_ok, s1]
     exact x4 _ w (hargs.allI x1)
    rw [this]
    exact hK [] w v' (by rw [List.append_nil]; exact H) (x5 _)
   have : (do let d ← resolve a.eval c o.type; invoke d.target d.args : Sem Next).run P w = .ok (.enter fx.1 (#[x'] ++ c.args.map a.eval)) w := by
    have ex : ∀ (y : Value) (l : Array Value), (#[y] ++ l).extract 1 (#[y] ++ l).size = l := fun y l => by
     apply Array.toList_inj.1
     simp [List.extract_eq_drop_take']
    have e0 : ∀ (y : Value) (l : Array Value), (#[y] ++ l)[0]? = some y := fun y l => by rw [Array.getElem?_append_left (by simp)]; rfl
    simp only [resolve, hcal, Sem.run_bind, Sem.run_pure, Result.andThen_ok, invoke]
    rw [e0, ex, hz]
    simp only [callMethod, Sem.run_bind, run_program, Result.andThen_ok, s1]
    exact run_callFunc hN q1 q2 _ w
   rw [this]
   refine ⟨(fun q => by cases q), ?_⟩
   refine CallsIn.mono (hcalls M w0 w _ (n - 1) H hargs) ?_
   rintro e w' ⟨N, v', rfl, r1, r2⟩
   exact hK N w' v' r1 r2
 ·have he2 : evOp P st.tm st.h o.op = some (v, h') := by
   unfold evO at he
   cases hop : o.op <;> rw [hop] at he <;> first | exact he | exact absurd ⟨_, hop⟩ hcall
  obtain ⟨N, w', v', r1, r2, r3⟩ := evOp_sound H ha o he2
  rcases r1 with r1 | ⟨r1, rfl⟩
  ·rw [r1]; exact hK N w' v' r2 r3
  ·rw [r1]; exact hK N w' undef r2 r3

theorem put_sound {nn : Nat} {tm : Fr} {a : Act} (ha : FR M nn tm a.tmps) (d : Option Tmp) {v v' : Value} (hv : VR M v v') : FR M nn (putL nn tm d v) (a.put d v').tmps ∧ (a.put d v').defers = a.defers := by
 cases d with
 | none => exact ⟨ha, rfl⟩
 | some d => exact ⟨ha.put d hv, rfl⟩
theorem dst_eq (ops : Array Oper) (j : Nat) : dstL ops.toList j = (ops[j]?).bind (·.dst) := by
 unfold dstL
 rw [Array.getElem?_toList]
 cases ops[j]? <;> rfl
theorem guard_eq {nn : Nat} {tm : Fr} {a : Act} (ha : FR M nn tm a.tmps) (ops : Array Oper) (j : Nat) (want : Bool) : (yielded ops a.tmps j == some want) = guardL ops.toList tm j want := by
 unfold guardL yielded
 rw [dst_eq]
 cases hd : (ops[j]?).bind (·.dst) with
 | none => rfl
 | some d =>
  simp only [Option.bind_some]
  have h1 := ha.2 d
  rw [Array.getD_eq_getD_getElem?] at h1
  cases ht : a.tmps[d]? with
  | none =>
   rw [ht] at h1
   simp only [Option.getD_none] at h1
   generalize Fr.get tm d = x at h1
   cases h1
   rfl
  | some y =>
   rw [ht] at h1
   simp only [Option.getD_some] at h1
   generalize Fr.get tm d = x at h1 ⊢
   cases h1 <;> first | rfl | (rename_i b; cases b <;> cases want <;> rfl)
theorem wanted_eq {nn : Nat} {tm : Fr} {a : Act} (ha : FR M nn tm a.tmps) (ops : Array Oper) (o : Oper) : Region.wanted o (yielded ops a.tmps) = wantedL ops.toList o tm := by
 unfold Region.wanted wantedL
 cases o.guard with
 | none => rfl
 | some p => exact guard_eq ha ops p.1 p.2

theorem evOps_sound (hN : ∀ fn ∈ P.funcs.toList, fn.name ≠ "runtime.NumGoroutine") {r : Rec} (hF : SF P r) (hC : SC P r) {nn : Nat} (ops : Array Oper) (n : Nat) (ro' : Option Nat) (Q : Exit → Act → World → Prop) {st' : St} : ∀ (l : List Oper) (i : Nat) (st : St) (M : List Loc) (a : Act) (w : World), ops.toList.drop i = l →
  evOps P r nn ops.toList l st = some st' → AR M w0 nn st a w → (∀ N a' w', AR (M ++ N) w0 nn st' a' w' → Q .normal a' w') → wpOpsIn (FW ro') n P ops Q (List.range' i l.length) a w
 | [], i, st, M, a, w, hd, he, hA, hQ => by
  simp only [evOps, Option.some.injEq] at he
  subst he
  exact hQ [] a w (by rw [List.append_nil]; exact hA)
 | o :: l, i, st, M, a, w, hd, he, hA, hQ => by
  have ho : ops[i]? = some o := by
   have := congrArg (fun x => x[0]?) hd
   simp only [List.getElem?_drop, Nat.add_zero, List.getElem?_cons_zero] at this
   rw [Array.getElem?_toList] at this
   exact this
  have hd' : ops.toList.drop (i + 1) = l := by
   rw [← List.drop_drop, hd]; rfl
  obtain ⟨H, F, D⟩ := hA
  simp only [List.length_cons, List.range'_succ, wpOpsIn, ho]
  rw [wanted_eq F]
  simp only [evOps] at he
  cases hw : wantedL ops.toList o st.tm with
  | true =>
   rw [hw] at he
   simp only [cnd_true] at he
   obtain ⟨vh, h1, he⟩ := ob_inv he
   simp only [if_true]
   refine evO_sound hN hF hC (h' := vh.2) (v := vh.1) h1 n ro' H F _ _ fun N w' v' r1 r2 => ?_
   obtain ⟨p1, p2⟩ := put_sound (F.mono N) o.dst r2
   refine evOps_sound hN hF hC ops n ro' Q l (i + 1) _ (M ++ N) _ w' hd' he ⟨r1, p1, ?_⟩ (fun N2 a' w' h3 => hQ (N ++ N2) a' w' (by rw [← List.append_assoc]; exact h3))
   rw [p2]; exact D.mono N
  | false =>
   rw [hw] at he
   simp only [cnd_false] at he
   simp only [Bool.false_eq_true, if_false]
   refine ⟨fun _ _ => trivial, ?_⟩
   obtain ⟨p1, p2⟩ := put_sound F o.dst (VR.undef M)
   refine evOps_sound hN hF hC ops n ro' Q l (i + 1) _ M _ w hd' he ⟨H, p1, ?_⟩ hQ
   rw [p2]; exact D
end
end Go.Proofs.YtddgcakiceodgaaGreat.EV
