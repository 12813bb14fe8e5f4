/- EV, part 9: code, functions, and the whole: what the evaluator answers, the call answers, in every world. SY, part 1: the evaluator with functions told beside (O), and its limit: what is answered with enough rounds; the limit goes by the same steps. No condition but that each function told beside is told soundly. -/
import Derived.Test.YtddgcakiceodgaaGreatM6
namespace Go.Proofs.YtddgcakiceodgaaGreat.EV
set_option linter.unusedVariables false
set_option linter.unusedSimpArgs false
open Go Go.RowKit

section
variable {P : Program} {M : List Loc} {w0 : Base} {w : World} {h h' : Heap}

theorem PostC.here {nn : Nat} {e : Exit} {st : St} {a : Act} {w : World} (h : AR M w0 nn st a w) : PostC M w0 nn e st e a w := ⟨rfl, [], by rw [List.append_nil]; exact h⟩

theorem then_sound {r : Rec} (hC : SC P r) {ro ro' : Option Nat} {nn n : Nat} {b : Code} {q : Exit × St} {e : Exit} {st' : St} (he : thenC r ro nn b q = some (e, st')) {a : Act} {w : World} {e' : Exit} (hro : RO M ro ro') (h : PostC M w0 nn q.1 q.2 e' a w) :
  Exit.then (b.wpIn (FW ro') n P (PostC M w0 nn e st')) (PostC M w0 nn e st') e' a w := by
 obtain ⟨rfl, N, hA⟩ := h
 obtain ⟨x, s⟩ := q
 cases x with
 | normal => exact wpIn_mono (hC _ _ _ _ _ _ he (M ++ N) w0 w a ro' n (hro.mono N) hA) fun _ _ _ q => q.up
 | _ => cases he; exact PostC.up N (PostC.here hA)
theorem block_sound {id : Nat} {q : Exit × St} {nn : Nat} {e : Exit} {st' : St} (he : blockC id q = some (e, st')) {a : Act} {w : World} {e' : Exit} (h : PostC M w0 nn q.1 q.2 e' a w) : Exit.inBlock id (PostC M w0 nn e st') e' a w := by
 obtain ⟨rfl, N, hA⟩ := h
 obtain ⟨x, s⟩ := q
 cases x with
 | exit i =>
  simp only [blockC] at he
  cases hb : Nat.beq i id with
  | true =>
   rw [hb] at he
   cases he
   simp only [Exit.inBlock, beq_inv hb, if_true]
   exact PostC.up N (PostC.here hA)
  | false =>
   rw [hb] at he
   cases he
   simp only [Exit.inBlock, if_neg (Nat.ne_of_beq_eq_false hb)]
   exact PostC.up N (PostC.here hA)
 | _ => cases he; exact PostC.up N (PostC.here hA)

theorem loop_key {r : Rec} (hC : SC P r) {ro ro' : Option Nat} {nn n : Nat} {c : Code} {e : Exit} {st' : St} : ∀ (j : Nat) (st : St) (M : List Loc) (a : Act) (w : World), evLoop r ro nn c j st = some (e, st') → RO M ro ro' → AR M w0 nn st a w →
  ∀ (b : Frame) (k : List Item) (cs : List Frame), b.roundOf = (FW ro').round → (FW ro').fn b.fn → (FW ro').room (cs.length + 1 + n) →
   ∃ e1 a1 w1, PostC M w0 nn e st' e1 a1 w1 ∧ ArrivesIn (Machine.fenced P (FW ro')) P (lone (b.atR a (.code c :: .inLoop c :: k)) cs w) b k cs e1 a1 w1
 | 0, st, M, a, w, he, hro, hA => by cases he
 | j + 1, st, M, a, w, he, hro, hA => by
  intro b k cs hr0 hb hr
  obtain ⟨q, h1, h2⟩ := ob_inv (show ob (r.C ro nn c st) (fun q => loopC (evLoop r ro nn c j) q) = some (e, st') from he)
  obtain ⟨x, s⟩ := q
  obtain ⟨e1, a1, w1, hq, harr⟩ := hC _ _ _ _ _ _ h1 M w0 w a ro' n hro hA b (.inLoop c :: k) cs hr0 hb hr
  obtain ⟨rfl, N, hA1⟩ := hq
  cases e1 with
  | normal =>
   obtain ⟨e2, a2, w2, hq2, harr2⟩ := loop_key hC j s (M ++ N) a1 w1 h2 (hro.mono N) hA1 b k cs hr0 hb hr
   exact ⟨e2, a2, w2, hq2.up, .of_steps (StepsIn.trans harr (.one (fenced_calm hb hr rfl) stepR_inLoop)) harr2⟩
  | exit id => cases h2; exact ⟨_, a1, w1, PostC.up N (PostC.here hA1), .pass (x := .inLoop c) rfl (fun _ _ => .inl (by simp)) harr⟩
  | goto l => cases h2; exact ⟨_, a1, w1, PostC.up N (PostC.here hA1), .pass (x := .inLoop c) rfl (fun _ _ => .inl (by simp)) harr⟩
  | ret => cases h2; exact ⟨_, a1, w1, PostC.up N (PostC.here hA1), .pass (x := .inLoop c) rfl (fun _ _ => .inl (by simp)) harr⟩
  | panic ch => cases h2; exact ⟨_, a1, w1, PostC.up N (PostC.here hA1), .pass (x := .inLoop c) rfl (fun _ _ => .inl (by simp)) harr⟩
  | outgrown => cases h2; exact ⟨_, a1, w1, PostC.up N (PostC.here hA1), .pass (x := .inLoop c) rfl (fun _ _ => .inl (by simp)) harr⟩

theorem head_sound {ro ro' : Option Nat} {nn : Nat} {st : St} {a : Act} {q : Heap × Nat × List Nat} (he : rangeHead ro st = some q) (hro : RO M ro ro') (hA : AR M w0 nn st a w) (fn : FuncId) (ps : Array Tmp) (assign body : Code) :
  ∃ N l mark w1, (Instr.enterLoop fn a.tmps ps assign body ro').run P w = .ok (l, mark) w1 ∧ AR (M ++ N) w0 nn ⟨st.tm, q.1.push (.loop { state := .ready, pending := none, n := nn, tm := st.tm, params := ps.toList, assign := assign, body := body, defers := q.2.1 }), q.2.2⟩ { a with defers := mark ++ a.defers } w1 ∧
   ∃ loc, (M ++ N)[q.1.next]? = some loc ∧ l = loc.blk := by
 obtain ⟨H, F, D⟩ := hA
 cases ro with
 | none =>
  cases ro' with
  | some _ => exact hro.elim
  | none =>
   cases he
   have H1 : HR (M ++ [⟨w.heap.size, 0, 0, 0⟩]) w0 (st.h.push .defd) (w.alloc (.deferred (some []))) := H.alloc _ ⟨w.heap.size, 0, 0, 0⟩ _ rfl ⟨H.bel.fresh (Nat.le_refl _), heap_new _ _⟩
   have hd := get_new M ⟨w.heap.size, 0, 0, 0⟩ st.h.next H.len
   have H2 : HR ((M ++ [⟨w.heap.size, 0, 0, 0⟩]) ++ [⟨w.heap.size + 1, 0, 0, 0⟩]) w0 ((st.h.push .defd).push (.loop { state := .ready, pending := none, n := nn, tm := st.tm, params := ps.toList, assign := assign, body := body, defers := st.h.next })) ((w.alloc (.deferred (some []))).alloc (.loop { state := .ready, pending := none, fn := fn, tmps := a.tmps, params := ps, assign := assign, body := body, defers := w.heap.size })) := by
    refine H1.alloc _ ⟨w.heap.size + 1, 0, 0, 0⟩ _ (by simp) ⟨?_, { state := .ready, pending := none, fn := fn, tmps := a.tmps, params := ps, assign := assign, body := body, defers := w.heap.size }, ?_, rfl, rfl, (F.mono _).mono _, rfl, rfl, rfl, ⟨⟨w.heap.size, 0, 0, 0⟩, pre_get hd, rfl⟩⟩
    ·exact H.bel.fresh (Nat.le_succ _)
    ·have := heap_new (w.alloc (.deferred (some []))) (.loop { state := .ready, pending := none, fn := fn, tmps := a.tmps, params := ps, assign := assign, body := body, defers := w.heap.size })
     simpa using this
   refine ⟨[⟨w.heap.size, 0, 0, 0⟩] ++ [⟨w.heap.size + 1, 0, 0, 0⟩], w.heap.size + 1, [{ target := .collected w.heap.size, args := #[] }], ((w.alloc (.deferred (some []))).alloc (.loop { state := .ready, pending := none, fn := fn, tmps := a.tmps, params := ps, assign := assign, body := body, defers := w.heap.size })), ?_, ⟨?_, ?_, ?_⟩, ⟨w.heap.size + 1, 0, 0, 0⟩, ?_, rfl⟩
   ·simp only [Instr.enterLoop, Sem.run_bind, run_newObj, Sem.run_pure, Result.andThen_ok, Array.size_push]
    rfl
   ·rw [← List.append_assoc]; exact H2
   ·exact F.mono _
   ·rw [← List.append_assoc]
    exact ⟨⟨⟨w.heap.size, 0, 0, 0⟩, pre_get hd, rfl⟩, (D.mono _).mono _⟩
   ·rw [← List.append_assoc]
    exact get_new _ _ _ (by simp [H.len])
 | some l =>
  cases ro' with
  | none => exact hro.elim
  | some l' =>
   obtain ⟨loc, hloc, rfl⟩ := hro
   obtain ⟨L, e1, he⟩ := ob_inv he
   cases he
   obtain ⟨hB, L', hw, hR⟩ := loop_at H hloc (loopB_inv e1)
   have H2 : HR (M ++ [⟨w.heap.size, 0, 0, 0⟩]) w0 (st.h.push (.loop { state := .ready, pending := none, n := nn, tm := st.tm, params := ps.toList, assign := assign, body := body, defers := L.defers })) (w.alloc (.loop { state := .ready, pending := none, fn := fn, tmps := a.tmps, params := ps, assign := assign, body := body, defers := L'.defers })) := by
    obtain ⟨l2, hl2, hl3⟩ := hR.defers
    exact H.alloc _ ⟨w.heap.size, 0, 0, 0⟩ _ rfl ⟨H.bel.fresh (Nat.le_refl _), _, heap_new _ _, rfl, rfl, F.mono _, rfl, rfl, rfl, ⟨l2, pre_get hl2, hl3⟩⟩
   refine ⟨[⟨w.heap.size, 0, 0, 0⟩], w.heap.size, [], (w.alloc (.loop { state := .ready, pending := none, fn := fn, tmps := a.tmps, params := ps, assign := assign, body := body, defers := L'.defers })), ?_, ⟨H2, F.mono _, D.mono _⟩, ⟨w.heap.size, 0, 0, 0⟩, get_new _ _ _ H.len, rfl⟩
   simp only [Instr.enterLoop, Sem.run_bind, run_getLoop hw, run_newObj, Sem.run_pure, Result.andThen_ok]
   rfl

theorem range_sound (hN : ∀ fn ∈ P.funcs.toList, fn.name ≠ "runtime.NumGoroutine") {r : Rec} (hF : SF P r) (hC : SC P r) {ro ro' : Option Nat} {nn n : Nat} {g : Operand} {gv : Value} {ps : Array Tmp} {assign body : Code} {st st' : St} {e : Exit} {a : Act} (hg : opnd st.tm g = some gv)
  (he : rangeC r ro nn gv ps.toList assign body st = some (e, st')) (hro : RO M ro ro') (hA : AR M w0 nn st a w) : (Code.rangeFunc g ps assign body).wpIn (FW ro') n P (PostC M w0 nn e st') a w := by
 cases gv with
 | func f fa fb =>
  cases f with
  | func f =>
   obtain ⟨q, e1, he⟩ := ob_inv he
   obtain ⟨vh, e2, he⟩ := ob_inv he
   obtain ⟨jh, e3, he⟩ := ob_inv he
   obtain ⟨L, e4, e3⟩ := ob_inv e3
   obtain ⟨g1, e3⟩ := gd_inv e3
   cases e3
   refine wpIn_rangeFunc fun fn _ => ?_
   obtain ⟨N, l, mark, w1, h1, ⟨H1, F1, D1⟩, loc, hloc, rfl⟩ := head_sound (P := P) e1 hro hA fn ps assign body
   obtain ⟨fa', fb', hfe, la, lb⟩ : ∃ fa' fb', a.eval g = .func (.func f) fa' fb' ∧ LR M fa.toList fa'.toList ∧ LR M fb.toList fb'.toList := by
    have := opnd_sound hA.2.1 hg
    generalize a.eval g = y at this
    cases this with
    | fn _ _ _ a' b' s1 s2 s3 s4 => exact ⟨a', b', rfl, ⟨s1, s3⟩, ⟨s2, s4⟩⟩
   rcases hF _ _ _ _ _ e2 with ⟨⟨fnc, cd, q1, q2⟩, hcalls⟩ | ⟨x1, _⟩
   rotate_left
   ·obtain ⟨k, n, e⟩ := x1 (yieldV q.1.next) (by simp)
    cases e
   have hargs : LR (M ++ N) (fa.toList ++ [yieldV q.1.next] ++ fb.toList) ((fa' ++ (#[Value.func (.yield loc.blk) #[] #[]] : Array Value)) ++ fb').toList := by
    rw [Array.toList_append, Array.toList_append]
    exact ((la.mono N).append (LR.cons (.yld _ loc hloc) (LR.nil _))).append (lb.mono N)
   refine ⟨loc.blk, mark, w1, { target := .fn (.func f) fb', args := fa' ++ (#[Value.func (.yield loc.blk) #[] #[]] : Array Value) }, w1, f, (fa' ++ (#[Value.func (.yield loc.blk) #[] #[]] : Array Value)) ++ fb', w1, h1, ?_, (fun _ _ => trivial), ?_, (fun q => by cases q), ?_⟩
   ·have hres : resolve a.eval (rangeCall g loc.blk) 0 = pure { target := .fn (.func f) fb', args := fa' ++ (#[Value.func (.yield loc.blk) #[] #[]] : Array Value) } := by
     unfold resolve rangeCall
     have hm : Array.map a.eval (#[Operand.const (Value.func (.yield loc.blk) #[] #[])] : Array Operand) = (#[Value.func (.yield loc.blk) #[] #[]] : Array Value) := by simp [Act.eval]
     simp only [hfe, Deferred.ofValue, hm]
    rw [hres]; rfl
   ·exact run_callFunc hN q1 q2 _ w1
   ·refine CallsIn.mono (hcalls (M ++ N) w0 w1 _ (n - 1) H1 hargs) ?_
    rintro e' w3 ⟨N2, v', rfl, H3, _⟩
    have hloc2 := pre_get (N := N2) hloc
    obtain ⟨hB, L', hw3, hR⟩ := loop_at H3 hloc2 (loopB_inv e4)
    have hnb : (L'.state == .busy) = false := by
     rw [hR.state]
     cases hs : L.state <;> rw [hs] at g1 <;> first | rfl | cases g1
    have H4 := H3.put_loop (L2 := { L with state := .exhausted }) (L2' := { L' with state := .exhausted }) hloc2 (loopB_inv e4) ⟨rfl, hR.pending, hR.tmps, hR.params, hR.assign, hR.body, hR.defers⟩
    refine ⟨L'.pending, { w3 with heap := w3.heap.setIfInBounds loc.blk (.loop { L' with state := .exhausted }) }, ?_, ?_⟩
    ·simp only [Instr.endLoop, Sem.run_bind, run_getLoop hw3, Result.andThen_ok, hnb, Bool.false_eq_true, if_false, run_setLoop hw3, Sem.run_pure]
    ·rw [hR.pending]
     have hA4 : AR (M ++ N ++ N2) w0 nn ⟨st.tm, vh.2.set q.1.next (.loop { L with state := .exhausted }), q.2.2⟩ { a with defers := mark ++ a.defers } { w3 with heap := w3.heap.setIfInBounds loc.blk (.loop { L' with state := .exhausted }) } := ⟨H4, F1.mono N2, D1.mono N2⟩
     unfold rangeTail at he
     cases hp : L.pending with
     | none =>
      simp only [hp] at he ⊢
      simp only [hR.pending, hp] at hA4
      cases he
      exact PostC.up N (PostC.up N2 (PostC.here hA4))
     | some c =>
      simp only [hp] at he ⊢
      simp only [hR.pending, hp] at hA4
      exact wpIn_mono (hC _ _ _ _ _ _ he _ w0 _ _ ro' n ((hro.mono N).mono N2) hA4) fun _ _ _ z => (z.up).up
  | _ => cases he
 | _ => cases he

theorem stepR_scope {b : Frame} {a : Act} {k : List Item} {cs : List Frame} {c : Code} : step P (lone (b.atR a (.code (.scope c) :: k)) cs w) = .next (lone (b.atR a (.code c :: .inScope c :: k)) cs w) :=
 step_lone_go (by simp [stepG, stepG.exec, Frame.atR])
theorem stepR_inScope {b : Frame} {a : Act} {k : List Item} {cs : List Frame} {c : Code} : step P (lone (b.atR a (.inScope c :: k)) cs w) = .next (lone (b.atR a k) cs w) :=
 step_lone_go (by simp [stepG, stepG.exec, Frame.atR])
theorem wpIn_scope {F : Fence} {n : Nat} {Q : Exit → Act → World → Prop} {a : Act} {c : Code} (h : c.wpIn F n P (fun e a w => (∀ l, e ≠ .goto l) ∧ Q e a w) a w) : (Code.scope c).wpIn F n P Q a w := by
 intro b k cs hro hb hr
 have h0 : (lone (b.atR a (.code (.scope c) :: k)) cs w).fenced P F := fenced_calm hb hr rfl
 obtain ⟨e, a₁, w₁, ⟨hg, hq⟩, harr⟩ := h b (.inScope c :: k) cs hro hb hr
 cases e with
 | normal => exact ⟨.normal, a₁, w₁, hq, .head h0 stepR_scope (StepsIn.trans harr (.one (fenced_calm hb hr rfl) stepR_inScope))⟩
 | exit id =>
  have hx : exitTo id (.inScope c :: k) = exitTo id k := by simp [exitTo]
  exact ⟨.exit id, a₁, w₁, hq, fun k' hk => .head h0 stepR_scope (harr.1 k' (by rw [hx]; exact hk)),
   fun hr' hk => let ⟨k₁, h1, h2⟩ := harr.2 hr' (by rw [hx]; exact hk); ⟨k₁, h1, .head h0 stepR_scope h2⟩⟩
 | goto l => exact absurd rfl (hg l)
 | ret => exact ⟨_, a₁, w₁, hq, .of_steps (.one h0 stepR_scope) harr⟩
 | panic ch => exact ⟨_, a₁, w₁, hq, .of_steps (.one h0 stepR_scope) harr⟩
 | outgrown => exact ⟨_, a₁, w₁, hq, .of_steps (.one h0 stepR_scope) harr⟩

theorem step_sound (hN : ∀ fn ∈ P.funcs.toList, fn.name ≠ "runtime.NumGoroutine") (hmix : P.follows .mixedOrders = true) {r : Rec} (hF : SF P r) (hC : SC P r) : SC P ⟨r.F, stepC P r⟩ := by
 intro ro nn c st e st' he M w0 w a ro' n hro hA
 have he' : stepC P r ro nn c st = some (e, st') := he
 unfold stepC at he'
 cases c with
 | skip => cases he'; exact wpIn_skip (PostC.here hA)
 | label l => cases he'; exact wpIn_label (PostC.here hA)
 | ret => cases he'; exact wpIn_ret (PostC.here hA)
 | exit id => cases he'; exact wpIn_exit (PostC.here hA)
 | region id ops draw =>
  obtain ⟨s, h1, he'⟩ := ob_inv he'
  cases he'
  exact region_sound hN hmix hF hC h1 n ro' hA
 | seq x y =>
  obtain ⟨q, h1, he'⟩ := ob_inv he'
  exact wpIn_seq (wpIn_mono (hC _ _ _ _ _ _ h1 M w0 w a ro' n hro hA) fun e1 a1 w1 hq => then_sound hC he' hro hq)
 | cond c x y =>
  obtain ⟨v, h1, he'⟩ := ob_inv he'
  obtain ⟨t, h2, he'⟩ := ob_inv he'
  have h3 := opnd_sound hA.2.1 h1
  rw [asBoolV_inv h2] at h3
  refine wpIn_cond (bool_inv h3) ?_
  have := hC _ _ _ _ _ _ he' M w0 w a ro' n hro hA
  cases t with
  | true => exact this
  | false => exact this
 | block id body =>
  obtain ⟨q, h1, he'⟩ := ob_inv he'
  exact wpIn_block (wpIn_mono (hC _ _ _ _ _ _ h1 M w0 w a ro' n hro hA) fun e1 a1 w1 hq => block_sound he' hq)
 | loop body =>
  intro b k cs hr0 hb hr
  obtain ⟨e1, a1, w1, hq, harr⟩ := loop_key hC 1000000 st M a w he' hro hA b k cs hr0 hb hr
  exact ⟨e1, a1, w1, hq, .of_steps (.one (fenced_calm hb hr rfl) stepR_loop) harr⟩
 | scope body =>
  obtain ⟨q, h1, he'⟩ := ob_inv he'
  obtain ⟨e1, s1⟩ := q
  have hng : (∀ l, e1 ≠ .goto l) ∧ e1 = e ∧ s1 = st' := by
   unfold scopeC at he'
   cases e1 <;> first | (cases he'; done) | (cases he'; exact ⟨(fun l q => by cases q), rfl, rfl⟩)
  obtain ⟨hng, rfl, rfl⟩ := hng
  exact wpIn_scope (wpIn_mono (hC _ _ _ _ _ _ h1 M w0 w a ro' n hro hA) fun e2 a2 w2 hq => ⟨fun l q => hng l (hq.1.symm.trans q), hq⟩)
 | rangeFunc g ps assign body =>
  obtain ⟨gv, h1, he'⟩ := ob_inv he'
  exact range_sound hN hF hC h1 he' hro hA
 | _ => cases he'

theorem res_run {st : St} {nn : Nat} {tmps : Array Value} (H : HR M w0 h w) (F : FR M nn st.tm tmps) : ∀ {l : List ResultVar} {vs : List Value}, resVs P st.tm h l = some vs →
  ∃ vs', ((l.mapM fun x => match x with | .tmp t => pure (tmps.getD t undef) | .cell a t => do loadVar t (← asAddr (tmps.getD a undef)) : Sem (List Value))).run P w = .ok vs' w ∧ LR M vs vs'
 | [], vs, he => by cases he; exact ⟨[], rfl, LR.nil M⟩
 | x :: l, vs, he => by
  obtain ⟨v, h1, he⟩ := ob_inv he
  obtain ⟨us, h2, he⟩ := ob_inv he
  cases he
  obtain ⟨vs', r1, r2⟩ := res_run H F h2
  have one : ∃ v', ((match x with | .tmp t => pure (tmps.getD t undef) | .cell a t => do loadVar t (← asAddr (tmps.getD a undef)) : Sem Value)).run P w = .ok v' w ∧ VR M v v' := by
   cases x with
   | tmp t => cases h1; exact ⟨_, rfl, F.2 t⟩
   | cell a t =>
    obtain ⟨p, h3, h1⟩ := ob_inv h1
    have hp := F.2 a
    rw [asPtr_inv h3] at hp
    have lift : ∀ v', (Instr.loadAt t (tmps.getD a undef)).run P w = .ok v' w → (do loadVar t (← asAddr (tmps.getD a undef)) : Sem Value).run P w = .ok v' w := by
     intro v' hv
     obtain ⟨l, hl, hq⟩ := ptr_inv hp
     rw [hq] at hv ⊢
     exact hv
    obtain ⟨ag, h5, h6⟩ := ob_inv h1
    cases ag with
    | true =>
     simp only [cnd_true] at h6
     obtain ⟨n, h7, h6⟩ := ob_inv h6
     obtain ⟨c, h8, h6⟩ := ob_inv h6
     cases h6
     obtain ⟨c', h9, h10⟩ := op_load_agg H hp h5 h7 h8
     exact ⟨_, lift _ h9, h10⟩
    | false =>
     simp only [cnd_false] at h6
     obtain ⟨v', h9, h10⟩ := op_load_one H hp h5 h6
     exact ⟨_, lift _ h9, h10⟩
  obtain ⟨v', o1, o2⟩ := one
  refine ⟨v' :: vs', ?_, LR.cons o2 r2⟩
  rw [List.mapM_cons]
  simp only [Sem.run_bind, o1, Result.andThen_ok, r1, Sem.run_pure]
theorem one_sound {vs vs' : List Value} (h : LR M vs vs') : VR M (oneOf vs) (if h : vs'.toArray.size = 1 then vs'.toArray[0] else .tuple vs'.toArray) := by
 cases vs with
 | nil => rw [h.nil_inv]; exact .tuple _ _ rfl (fun i x y hx => by simp at hx)
 | cons v vs =>
  obtain ⟨v', vs'', rfl, h1, h2⟩ := h.cons_inv
  cases vs with
  | nil => rw [h2.nil_inv]; exact h1
  | cons u us =>
   obtain ⟨u', us', rfl, h3, h4⟩ := h2.cons_inv
   have : ¬ (v' :: u' :: us').toArray.size = 1 := by simp
   rw [dif_neg this]
   exact .tuple _ _ h.1 h.2
theorem leaves_sound {fn : Func} {nn : Nat} {tmps : Array Value} {v : Value} {h2 : Heap} {tm : Fr} (hv : (ob (resVs P tm h2 fn.results.toList) fun vs => some (oneOf vs, h2)) = some (v, h')) (n : Nat) : ∀ (ms : List Nat) (ds : List Deferred) (h : Heap) (w : World), killL ms h = some h2 → DR M ms ds → HR M w0 h w → FR M nn tm tmps →
  LeavesInM (FW none) n P fn tmps (PostV M w0 h' v) ds .returning w
 | [], [], h, w, hk, _, H, F => by
  cases hk
  obtain ⟨vs, h1, h3⟩ := ob_inv hv
  cases h3
  obtain ⟨vs', r1, r2⟩ := res_run (st := ⟨tm, h', []⟩) H F h1
  refine ⟨_, ?_, [], _, rfl, by rw [List.append_nil]; exact H, by rw [List.append_nil]; exact one_sound r2⟩
  unfold results
  rw [Array.mapM_eq_mapM_toList]
  simp only [Sem.run_bind, Sem.run_map, Sem.run_pure]
  erw [r1]
  rfl
 | d :: ms, x :: ds, h, w, hk, hD, H, F => by
  obtain ⟨⟨l, hl, rfl⟩, hD⟩ := hD
  obtain ⟨g1, hk⟩ := gd_inv hk
  have hg : h.get d = .defd := by cases hb : h.get d <;> rw [hb] at g1 <;> first | rfl | cases g1
  have hb := H.blk d l hl
  rw [hg] at hb
  refine ⟨by simp, .inl ⟨l.blk, w.putObj l.blk (.deferred none), rfl, run_takeDeferred hb.2, ?_⟩⟩
  refine leaves_sound hv n ms ds _ _ hk hD ?_ F
  exact H.put (o := .deferred none) hl (by rw [hg]; rfl) trivial
 | [], _ :: _, _, _, _, hD, _, _ => hD.elim
 | _ :: _, [], _, _, _, hD, _, _ => hD.elim

theorem stepF_sound {r : Rec} (hC : SC P r) : SF P ⟨stepF P r, r.C⟩ := by
 intro f args h v h' he
 left
 have he' : stepF P r f args h = some (v, h') := he
 obtain ⟨fn, h1, he'⟩ := ob_inv he'
 obtain ⟨c, h2, he'⟩ := ob_inv he'
 obtain ⟨q, h3, he'⟩ := ob_inv he'
 obtain ⟨g1, he'⟩ := gd_inv he'
 refine ⟨⟨fn, c, h1, h2⟩, fun M w0 w args' n H hl => ?_⟩
 refine callsIn_of_wp_marks h1 h2 trivial ?_
 have hfr := FR.enter hl fn.ntmps
 obtain ⟨x, s⟩ := q
 have hlen : args'.size = args.length := by rw [← Array.length_toList, ← hl.1]
 refine wpIn_mono (hC none _ c _ _ _ h3 M w0 w { tmps := args' ++ Array.replicate (fn.ntmps - args'.size) undef, defers := [] } none n trivial ⟨H, hfr, trivial⟩) ?_
 rintro e a1 w1 ⟨rfl, N, H1, F1, D1⟩
 obtain ⟨h2', k1, k2⟩ := ob_inv he'
 have key := leaves_sound (P := P) (fn := fn) k2 n s.ms a1.defers s.h w1 k1 D1 H1 F1
 have up : ∀ {u : FrameMode}, LeavesInM (FW none) n P fn a1.tmps (PostV (M ++ N) w0 h' v) a1.defers u w1 → True := fun _ => trivial
 have mono : ∀ e w', PostV (M ++ N) w0 h' v e w' → PostV M w0 h' v e w' := by
  rintro e w' ⟨N2, v', r1, r2, r3⟩
  exact ⟨N ++ N2, v', r1, by rw [← List.append_assoc]; exact r2, by rw [← List.append_assoc]; exact r3⟩
 have key2 : LeavesInM (FW none) n P fn a1.tmps (PostV M w0 h' v) a1.defers .returning w1 := by
  have gen : ∀ (ms : List Nat) (ds : List Deferred) (w : World), DR (M ++ N) ms ds → LeavesInM (FW none) n P fn a1.tmps (PostV (M ++ N) w0 h' v) ds .returning w → LeavesInM (FW none) n P fn a1.tmps (PostV M w0 h' v) ds .returning w := by
   intro ms
   induction ms with
   | nil =>
    intro ds w hD hL
    cases ds with
    | cons _ _ => exact hD.elim
    | nil => obtain ⟨u, u1, u2⟩ := hL; exact ⟨u, u1, mono _ _ u2⟩
   | cons d ms ih =>
    intro ds w hD hL
    cases ds with
    | nil => exact hD.elim
    | cons x ds =>
     obtain ⟨⟨l, hl1, rfl⟩, hD⟩ := hD
     obtain ⟨m1, hL⟩ := hL
     rcases hL with ⟨r0, w', t1, t2, t3⟩ | ⟨_, fv, cap, f, args, t1, _⟩
     ·exact ⟨m1, .inl ⟨r0, w', t1, t2, ih ds w' hD t3⟩⟩
     ·cases t1
  exact gen _ _ _ D1 key
 cases e with
 | normal => exact key2
 | ret => exact key2
 | _ => cases g1

theorem ev_sound (hN : ∀ fn ∈ P.funcs.toList, fn.name ≠ "runtime.NumGoroutine") (hmix : P.follows .mixedOrders = true) : ∀ k, SF P (ev P k) ∧ SC P (ev P k)
 | 0 => ⟨(fun f args h v h' he => by cases he), (fun ro nn c st e st' he => by cases he)⟩
 | k + 1 => by
  obtain ⟨hF, hC⟩ := ev_sound hN hmix k
  exact ⟨fun f args h v h' he => stepF_sound hC f args h v h' he, fun ro nn c st e st' he => step_sound hN hmix hF hC ro nn c st e st' he⟩

end

/-! ## what a step asks of the rest is finite -/
inductive Fact where
 | F (f : FuncId) (a : List Value) (h : Heap) (y : Value × Heap)
 | C (ro : Option Nat) (n : Nat) (c : Code) (st : St) (y : Exit × St)
noncomputable def Fact.ok (r : Rec) : Fact → Prop
 | .F f a h y => r.F f a h = some y
 | .C ro n c st y => r.C ro n c st = some y
noncomputable def AllOk (r : Rec) (L : List Fact) : Prop := ∀ x ∈ L, x.ok r
theorem AllOk.app {r : Rec} {A B : List Fact} (h : AllOk r (A ++ B)) : AllOk r A ∧ AllOk r B := ⟨fun x hx => h x (List.mem_append_left _ hx), fun x hx => h x (List.mem_append_right _ hx)⟩
theorem AllOk.mk {r : Rec} {A B : List Fact} (h : AllOk r A) (k : AllOk r B) : AllOk r (A ++ B) := fun x hx => (List.mem_append.1 hx).elim (h x) (k x)
noncomputable def Fin {α : Type} (φ : Rec → Option α) : Prop := ∀ r x, φ r = some x → ∃ L, AllOk r L ∧ ∀ r', AllOk r' L → φ r' = some x
noncomputable def FinB (φ : Rec → Bool) : Prop := ∀ r, φ r = true → ∃ L, AllOk r L ∧ ∀ r', AllOk r' L → φ r' = true

theorem Fin.const {α : Type} (x : Option α) : Fin fun _ => x := fun r y h => ⟨[], (fun _ hx => by cases hx), fun _ _ => h⟩
theorem FinB.const (b : Bool) : FinB fun _ => b := fun r h => ⟨[], (fun _ hx => by cases hx), fun _ _ => h⟩
theorem Fin.callF (f : FuncId) (a : List Value) (h : Heap) : Fin fun r => r.F f a h := fun r y e => ⟨[.F f a h y], (fun x hx => by rw [List.mem_singleton.1 hx]; exact e), fun r' k => k (.F f a h y) (List.mem_singleton.2 rfl)⟩
theorem Fin.callC (ro : Option Nat) (n : Nat) (c : Code) (st : St) : Fin fun r => r.C ro n c st := fun r y e => ⟨[.C ro n c st y], (fun x hx => by rw [List.mem_singleton.1 hx]; exact e), fun r' k => k (.C ro n c st y) (List.mem_singleton.2 rfl)⟩
theorem ob_some {α β : Type} (v : α) (f : α → Option β) : ob (some v) f = f v := rfl
theorem gd_true {β : Type} (x : Option β) : gd true x = x := rfl
theorem Fin.ob {α β : Type} {φ : Rec → Option α} {ψ : α → Rec → Option β} (h : Fin φ) (k : ∀ v, Fin (ψ v)) : Fin fun r => ob (φ r) (fun v => ψ v r) := fun r y e => by
 obtain ⟨v, e1, e2⟩ := ob_inv e
 obtain ⟨A, a1, a2⟩ := h r v e1
 obtain ⟨B, b1, b2⟩ := k v r y e2
 exact ⟨A ++ B, a1.mk b1, fun r' hr => by obtain ⟨c1, c2⟩ := hr.app; simp only [a2 r' c1, ob_some]; exact b2 r' c2⟩
theorem Fin.gd {β : Type} {φ : Rec → Option β} (b : Bool) (h : Fin φ) : Fin fun r => gd b (φ r) := by
 cases b with
 | false => exact Fin.const none
 | true => exact h
theorem Fin.cnd {β : Type} {φ ψ : Rec → Option β} (b : Bool) (h : Fin φ) (k : Fin ψ) : Fin fun r => cnd b (φ r) (ψ r) := by
 cases b with
 | false => exact k
 | true => exact h
theorem Fin.cndB {β : Type} {φ : Rec → Bool} {ψ : Rec → Option β} (h : FinB φ) (k : Fin ψ) : Fin fun r => EV.cnd (φ r) (ψ r) none := fun r y e0 => by
 have e : EV.cnd (φ r) (ψ r) none = some y := e0
 cases hb : φ r with
 | false => rw [hb] at e; cases e
 | true =>
  rw [hb, cnd_true] at e
  obtain ⟨A, a1, a2⟩ := h r hb
  obtain ⟨B, b1, b2⟩ := k r y e
  exact ⟨A ++ B, a1.mk b1, fun r' hr => by obtain ⟨c1, c2⟩ := hr.app; simp only [a2 r' c1, cnd_true]; exact b2 r' c2⟩
theorem FinB.and {φ ψ : Rec → Bool} (h : FinB φ) (k : FinB ψ) : FinB fun r => φ r && ψ r := fun r e => by
 rw [Bool.and_eq_true] at e
 obtain ⟨A, a1, a2⟩ := h r e.1
 obtain ⟨B, b1, b2⟩ := k r e.2
 exact ⟨A ++ B, a1.mk b1, fun r' hr => by obtain ⟨c1, c2⟩ := hr.app; simp only [a2 r' c1, b2 r' c2, Bool.and_self]⟩
theorem FinB.orC {φ : Rec → Bool} (b : Bool) (h : FinB φ) : FinB fun r => b || φ r := by
 cases b with
 | false => simpa using h
 | true => simpa using FinB.const true

section
variable {P : Program}
theorem fin_evRound (l : Nat) (args : List Value) (h : Heap) : Fin fun r => evRound r l args h :=
 Fin.ob (Fin.const _) fun L => Fin.gd _ (Fin.ob (Fin.callC _ _ _ _) fun q1 => Fin.gd _ (Fin.ob (Fin.const _) fun L1 => Fin.gd _ (Fin.ob (Fin.callC _ _ _ _) fun q2 => Fin.const _)))
theorem fin_evCallV (h : Heap) (args : List Value) (f : Value) : Fin fun r => evCallV r h args f := by
 cases f with
 | func f a b => cases f with
  | func g => exact Fin.callF _ _ _
  | yield l => exact Fin.gd _ (fin_evRound _ _ _)
  | _ => exact Fin.const none
 | _ => exact Fin.const none
theorem fin_evInvV (h : Heap) (args : List Value) (m : String) (v : Value) : Fin fun r => evInvV P r h args m v :=
 Fin.ob (Fin.const _) fun u => Fin.ob (Fin.const _) fun fx => Fin.callF _ _ _
theorem fin_evCall (c : Call) (st : St) : Fin fun r => evCall P r c st := by
 refine Fin.ob (Fin.const _) fun args => ?_
 cases c.callee with
 | builtin b => exact Fin.const _
 | value f => exact Fin.ob (Fin.const _) fun f => fin_evCallV _ _ _
 | invoke x m => exact Fin.ob (Fin.const _) fun v => fin_evInvV _ _ _ _
theorem fin_evO (o : Oper) (st : St) : Fin fun r => evO P r o st := by
 unfold evO
 cases o.op with
 | call c => exact fin_evCall c st
 | _ => exact Fin.const _
theorem fin_evOps (n : Nat) (all : List Oper) : ∀ (l : List Oper) (st : St), Fin fun r => evOps P r n all l st
 | [], st => Fin.const _
 | o :: rest, st => Fin.cnd _ (Fin.ob (fin_evO o st) fun vh => fin_evOps n all rest _) (fin_evOps n all rest _)
theorem fin_evTrace (n : Nat) (all : List Oper) : ∀ (l : List (Nat × Oper)) (st : St) (hs : List Heap) (rs : List Rd), Fin fun r => evTrace P r n all l st hs rs
 | [], st, hs, rs => Fin.const _
 | a :: rest, st, hs, rs => Fin.cnd _ (Fin.ob (fin_evO a.2 st) fun vh => fin_evTrace n all rest _ _ _) (fin_evTrace n all rest _ _ _)
theorem fin_rdOne (x : Rd) (ms : List Nat) (h : Heap) : FinB fun r => rdOne P r x ms h := fun r e0 => by
 have e : rdOne P r x ms h = true := e0
 unfold rdOne at e
 cases hv : evO P r x.o ⟨x.tm, h, ms⟩ with
 | none => rw [hv] at e; cases e
 | some vh =>
  rw [hv] at e
  obtain ⟨A, a1, a2⟩ := fin_evO x.o ⟨x.tm, h, ms⟩ r vh hv
  exact ⟨A, a1, fun r' hr => by unfold rdOne; simp only [a2 r' hr]; exact e⟩
theorem fin_rdAt (x : Rd) (ms : List Nat) : ∀ hs : List Heap, FinB fun r => rdAt P r x ms hs
 | [] => FinB.const true
 | h :: hs => FinB.and (fin_rdOne x ms h) (fin_rdAt x ms hs)
theorem fin_rdsOK (C : List (Nat × Oper)) (A : List Nat) (ms : List Nat) (hs : List Heap) : ∀ xs : List Rd, FinB fun r => rdsOK P r C A ms hs xs
 | [] => FinB.const true
 | x :: xs => FinB.and (FinB.orC _ (fin_rdAt x ms _)) (fin_rdsOK C A ms hs xs)
theorem fin_evRegion (n : Nat) (ops : List Oper) (draw : Bool) (st : St) : Fin fun r => evRegion P r n ops draw st := by
 refine Fin.cnd draw ?_ (fin_evOps n ops ops st)
 cases regOK P ops with
 | none => exact Fin.const none
 | some AC =>
  intro r y e
  simp only at e ⊢
  cases ht : evTrace P r n ops AC.2 st [st.h] [] with
  | none => rw [ht] at e; cases e
  | some q =>
   rw [ht] at e
   obtain ⟨A, a1, a2⟩ := fin_evTrace n ops AC.2 st [st.h] [] r q ht
   obtain ⟨B, b1, b2⟩ := Fin.cndB (fin_rdsOK AC.2 AC.1 st.ms q.2.1 q.2.2) (Fin.const (some q.1)) r y e
   exact ⟨A ++ B, a1.mk b1, fun r' hr => by obtain ⟨c1, c2⟩ := hr.app; simp only [a2 r' c1]; exact b2 r' c2⟩
theorem fin_thenC (ro : Option Nat) (n : Nat) (b : Code) (q : Exit × St) : Fin fun r => thenC r ro n b q := by
 unfold thenC
 cases q.1 with
 | normal => exact Fin.callC _ _ _ _
 | _ => exact Fin.const _
theorem evLoop_succ (r : Rec) (ro : Option Nat) (n : Nat) (c : Code) (j : Nat) (st : St) : evLoop r ro n c (j + 1) st = ob (r.C ro n c st) (fun q => loopC (evLoop r ro n c j) q) := rfl
theorem fin_evLoop (ro : Option Nat) (n : Nat) (c : Code) : ∀ (j : Nat) (st : St), Fin fun r => evLoop r ro n c j st
 | 0, st => Fin.const none
 | j + 1, st => by
  simp only [evLoop_succ]
  refine Fin.ob (Fin.callC _ _ _ _) fun q => ?_
  unfold loopC
  cases q.1 with
  | normal => exact fin_evLoop ro n c j q.2
  | _ => exact Fin.const _
theorem fin_rangeTail (ro : Option Nat) (n : Nat) (tm : Fr) (ms : List Nat) (q : Option Code × Heap) : Fin fun r => rangeTail r ro n tm ms q := by
 unfold rangeTail
 cases q.1 with
 | none => exact Fin.const _
 | some c => exact Fin.callC _ _ _ _
theorem fin_rangeC (ro : Option Nat) (n : Nat) (g : Value) (ps : List Tmp) (assign body : Code) (st : St) : Fin fun r => rangeC r ro n g ps assign body st := by
 cases g with
 | func f a b => cases f with
  | func f => exact Fin.ob (Fin.const _) fun q => Fin.ob (Fin.callF _ _ _) fun vh => Fin.ob (Fin.const _) fun e => fin_rangeTail _ _ _ _ _
  | _ => exact Fin.const none
 | _ => exact Fin.const none
theorem fin_stepC (ro : Option Nat) (n : Nat) (c : Code) (st : St) : Fin fun r => stepC P r ro n c st := by
 unfold stepC
 cases c with
 | region id ops draw => exact Fin.ob (fin_evRegion _ _ _ _) fun _ => Fin.const _
 | seq a b => exact Fin.ob (Fin.callC _ _ _ _) fun q => fin_thenC _ _ _ _
 | cond c a b => exact Fin.ob (Fin.const _) fun v => Fin.ob (Fin.const _) fun t => Fin.callC _ _ _ _
 | block id body => exact Fin.ob (Fin.callC _ _ _ _) fun q => Fin.const _
 | loop body => exact fin_evLoop _ _ _ _ _
 | scope body => exact Fin.ob (Fin.callC _ _ _ _) fun q => Fin.const _
 | rangeFunc g ps assign body => exact Fin.ob (Fin.const _) fun g => fin_rangeC _ _ _ _ _ _ _
 | _ => exact Fin.const _
theorem fin_stepF (f : FuncId) (args : List Value) (h : Heap) : Fin fun r => stepF P r f args h :=
 Fin.ob (Fin.const _) fun fn => Fin.ob (Fin.const _) fun c => Fin.ob (Fin.callC _ _ _ _) fun q => Fin.const _
end

/-! ## functions told beside -/
abbrev Orc := FuncId → Option (List Value → Heap → VH)
noncomputable def stepO (P : Program) (O : Orc) (r : Rec) (f : FuncId) (args : List Value) (h : Heap) : VH := match O f with
 | some g => g args h
 | none => stepF P r f args h
noncomputable def evq (P : Program) (O : Orc) : Nat → Rec
 | 0 => ⟨fun _ _ _ => none, fun _ _ _ _ => none⟩
 | k + 1 => ⟨stepO P O (evq P O k), stepC P (evq P O k)⟩
abbrev SF1 (P : Program) (f : FuncId) (args : List Value) (h : Heap) (v : Value) (h' : Heap) : Prop := SFB P f args h v h'
noncomputable def SO (P : Program) (O : Orc) : Prop := ∀ f g, O f = some g → ∀ args h v h', g args h = some (v, h') → SF1 P f args h v h' ∨ SFX P f args h v h'
theorem fin_stepO {P : Program} (O : Orc) (f : FuncId) (args : List Value) (h : Heap) : Fin fun r => stepO P O r f args h := by
 unfold stepO
 cases O f with
 | none => exact fin_stepF f args h
 | some g => exact Fin.const _

section
variable {P : Program} {O : Orc}
theorem evq_sound (hN : ∀ fn ∈ P.funcs.toList, fn.name ≠ "runtime.NumGoroutine") (hmix : P.follows .mixedOrders = true) (hO : SO P O) : ∀ k, SF P (evq P O k) ∧ SC P (evq P O k)
 | 0 => ⟨(fun f args h v h' he => by cases he), (fun ro nn c st e st' he => by cases he)⟩
 | k + 1 => by
  obtain ⟨hF, hC⟩ := evq_sound hN hmix hO k
  refine ⟨fun f args h v h' he => ?_, fun ro nn c st e st' he => step_sound hN hmix hF hC ro nn c st e st' he⟩
  have he' : stepO P O (evq P O k) f args h = some (v, h') := he
  unfold stepO at he'
  cases ho : O f with
  | none => rw [ho] at he'; exact stepF_sound hC f args h v h' he'
  | some g => rw [ho] at he'; exact hO f g ho args h v h' he'

noncomputable def LeR (r r' : Rec) : Prop := ∀ x : Fact, x.ok r → x.ok r'
theorem Fin.le {α : Type} {φ : Rec → Option α} (h : Fin φ) {r r' : Rec} (k : LeR r r') {x : α} (e : φ r = some x) : φ r' = some x := by
 obtain ⟨L, l1, l2⟩ := h r x e
 exact l2 r' fun y hy => k y (l1 y hy)
theorem evq_le : ∀ k, LeR (evq P O k) (evq P O (k + 1))
 | 0 => fun x h => by cases x <;> cases h
 | k + 1 => fun x h => by
  cases x with
  | F f a h0 y => exact (fin_stepO O f a h0).le (evq_le k) h
  | C ro n c st y => exact (fin_stepC ro n c st).le (evq_le k) h
theorem evq_mono {j k : Nat} (h : j ≤ k) : LeR (evq P O j) (evq P O k) := by
 induction h with
 | refl => exact fun x h => h
 | step _ ih => exact fun x h => evq_le _ x (ih x h)

open Classical in
noncomputable def EF (P : Program) (O : Orc) (f : FuncId) (args : List Value) (h : Heap) : VH := if hx : ∃ y, ∃ k, (evq P O k).F f args h = some y then some (Classical.choose hx) else none
open Classical in
noncomputable def EC (P : Program) (O : Orc) (ro : Option Nat) (n : Nat) (c : Code) (st : St) : CR := if hx : ∃ y, ∃ k, (evq P O k).C ro n c st = some y then some (Classical.choose hx) else none
noncomputable def EVR (P : Program) (O : Orc) : Rec := ⟨EF P O, EC P O⟩

theorem EF_iff {f : FuncId} {args : List Value} {h : Heap} {y : Value × Heap} : EF P O f args h = some y ↔ ∃ k, (evq P O k).F f args h = some y := by
 constructor
 ·intro e
  unfold EF at e
  split at e
  ·rename_i hx
   cases e
   exact Classical.choose_spec hx
  ·cases e
 ·rintro ⟨k, hk⟩
  have hx : ∃ y, ∃ k, (evq P O k).F f args h = some y := ⟨y, k, hk⟩
  unfold EF
  rw [dif_pos hx]
  obtain ⟨j, hj⟩ := Classical.choose_spec hx
  have a := evq_mono (P := P) (O := O) (Nat.le_max_left k j) (.F f args h y) hk
  have b := evq_mono (P := P) (O := O) (Nat.le_max_right k j) (.F f args h (Classical.choose hx)) hj
  exact (b.symm.trans a)
theorem EC_iff {ro : Option Nat} {n : Nat} {c : Code} {st : St} {y : Exit × St} : EC P O ro n c st = some y ↔ ∃ k, (evq P O k).C ro n c st = some y := by
 constructor
 ·intro e
  unfold EC at e
  split at e
  ·rename_i hx
   cases e
   exact Classical.choose_spec hx
  ·cases e
 ·rintro ⟨k, hk⟩
  have hx : ∃ y, ∃ k, (evq P O k).C ro n c st = some y := ⟨y, k, hk⟩
  unfold EC
  rw [dif_pos hx]
  obtain ⟨j, hj⟩ := Classical.choose_spec hx
  have a := evq_mono (P := P) (O := O) (Nat.le_max_left k j) (.C ro n c st y) hk
  have b := evq_mono (P := P) (O := O) (Nat.le_max_right k j) (.C ro n c st (Classical.choose hx)) hj
  exact (b.symm.trans a)
theorem ok_iff {x : Fact} : x.ok (EVR P O) ↔ ∃ k, x.ok (evq P O k) := by
 cases x with
 | F f a h y => exact EF_iff
 | C ro n c st y => exact EC_iff
theorem allOk_ex : ∀ {L : List Fact}, AllOk (EVR P O) L → ∃ k, AllOk (evq P O k) L
 | [], _ => ⟨0, fun _ h => by cases h⟩
 | x :: L, h => by
  obtain ⟨j, hj⟩ := allOk_ex (L := L) fun y hy => h y (List.mem_cons_of_mem _ hy)
  obtain ⟨k, hk⟩ := ok_iff.1 (h x (List.mem_cons_self ..))
  refine ⟨max j k, fun y hy => ?_⟩
  rcases List.mem_cons.1 hy with rfl | hy
  ·exact evq_mono (Nat.le_max_right j k) _ hk
  ·exact evq_mono (Nat.le_max_left j k) _ (hj y hy)
theorem Fin.lim {α : Type} {φ : Rec → Option α} (h : Fin φ) {x : α} : φ (EVR P O) = some x ↔ ∃ k, φ (evq P O k) = some x := by
 constructor
 ·intro e
  obtain ⟨L, l1, l2⟩ := h _ x e
  obtain ⟨k, hk⟩ := allOk_ex l1
  exact ⟨k, l2 _ hk⟩
 ·rintro ⟨k, hk⟩
  obtain ⟨L, l1, l2⟩ := h _ x hk
  exact l2 _ fun y hy => ok_iff.2 ⟨k, l1 y hy⟩
theorem EF_eq (f : FuncId) (args : List Value) (h : Heap) : EF P O f args h = stepO P O (EVR P O) f args h := by
 apply Option.ext
 intro y
 rw [EF_iff, (fin_stepO O f args h).lim]
 constructor
 ·rintro ⟨k, hk⟩
  cases k with
  | zero => cases hk
  | succ k => exact ⟨k, hk⟩
 ·rintro ⟨k, hk⟩
  exact ⟨k + 1, hk⟩
theorem EC_eq (ro : Option Nat) (n : Nat) (c : Code) (st : St) : EC P O ro n c st = stepC P (EVR P O) ro n c st := by
 apply Option.ext
 intro y
 rw [EC_iff, (fin_stepC ro n c st).lim]
 constructor
 ·rintro ⟨k, hk⟩
  cases k with
  | zero => cases hk
  | succ k => exact ⟨k, hk⟩
 ·rintro ⟨k, hk⟩
  exact ⟨k + 1, hk⟩
theorem EF_sound (hN : ∀ fn ∈ P.funcs.toList, fn.name ≠ "runtime.NumGoroutine") (hmix : P.follows .mixedOrders = true) (hO : SO P O) {f : FuncId} {args : List Value} {h : Heap} {v : Value} {h' : Heap} (he : EF P O f args h = some (v, h')) : SF1 P f args h v h' ∨ SFX P f args h v h' := by
 obtain ⟨k, hk⟩ := EF_iff.1 he
 exact (evq_sound hN hmix hO k).1 f args h v h' hk
end
attribute [irreducible] EF EC
end Go.Proofs.YtddgcakiceodgaaGreat.EV
