/- EV, part 5: every operation that is no call of a function; the built-in ones. EV, part 6: the built-in functions. -/
import Derived.Test.YtddgcakiceodgaaGreatM3
namespace Go.Proofs.YtddgcakiceodgaaGreat.EV
set_option linter.unusedVariables false
set_option linter.unusedSimpArgs false
open Go Go.RowKit

section
variable {P : Program} {M : List Loc} {w0 : Base} {w : World} {h h' : Heap} {nn : Nat} {tm : Fr} {a : Act} {v : Value}

theorem Res.val {s : Sem Value} {e : Sem Next} (hs : ∃ N w' v', s.run P w = .ok v' w' ∧ HR (M ++ N) w0 h' w' ∧ VR (M ++ N) v v') (he : e = (do pure (Next.value (← s)))) : Res P M w0 w e v h' := by
 obtain ⟨N, w', v', h1, h2, h3⟩ := hs
 refine ⟨N, w', v', .inl ?_, h2, h3⟩
 rw [he]
 simp only [Sem.run_bind, h1, Result.andThen_ok, Sem.run_pure]
theorem Res.same {s : Sem Value} {e : Sem Next} (H : HR M w0 h w) (hs : ∃ v', s.run P w = .ok v' w ∧ VR M v v') (he : e = (do pure (Next.value (← s)))) : Res P M w0 w e v h := by
 obtain ⟨v', h1, h3⟩ := hs
 exact Res.val ⟨[], w, v', h1, by rw [List.append_nil]; exact H, by rw [List.append_nil]; exact h3⟩ he
theorem Res.unit {s : Sem Unit} {e : Sem Next} (hs : ∃ w', s.run P w = .ok () w' ∧ HR M w0 h' w') (he : e = (do s; pure Next.skip)) : Res P M w0 w e undef h' := by
 obtain ⟨w', h1, h2⟩ := hs
 refine ⟨[], w', undef, .inr ⟨?_, rfl⟩, by rw [List.append_nil]; exact h2, VR.undef _⟩
 rw [he]
 simp only [Sem.run_bind, h1, Result.andThen_ok, Sem.run_pure]

theorem asPtr_inv {u : Value} {p : Nat × Nat} (h : asPtr u = some p) : u = .pointer (some ⟨p.1, p.2, none⟩) := by
 unfold asPtr at h
 split at h
 ·cases h; rfl
 ·cases h
theorem asIntV_inv {u : Value} {p : IntKind × Int} (h : asIntV u = some p) : u = .int p.1 p.2 := by
 unfold asIntV at h
 split at h
 ·cases h; rfl
 ·cases h
theorem asBoolV_inv {u : Value} {p : Bool} (h : asBoolV u = some p) : u = .bool p := by
 unfold asBoolV at h
 split at h
 ·cases h; rfl
 ·cases h
theorem asAggV_inv {u : Value} {p : List Value} (h : asAggV u = some p) : u = .agg ⟨p⟩ := by
 unfold asAggV at h
 split at h
 ·cases h; rfl
 ·cases h
theorem asTupV_inv {u : Value} {p : List Value} (h : asTupV u = some p) : u = .tuple ⟨p⟩ := by
 unfold asTupV at h
 split at h
 ·cases h; rfl
 ·cases h
theorem asMapV_inv {u : Value} {p : Nat} (h : asMapV u = some p) : u = .map (some p) := by
 unfold asMapV at h
 split at h
 ·cases h; rfl
 ·cases h
theorem sliceE_inv {u : TypeDesc} {p : TypeId} (h : sliceE u = some p) : u = .slice p := by
 unfold sliceE at h
 split at h
 ·cases h; rfl
 ·cases h
theorem structE_inv {u : TypeDesc} {p : List Field} (h : structE u = some p) : u = .struct ⟨p⟩ := by
 unfold structE at h
 split at h
 ·cases h; rfl
 ·cases h
theorem mapE_inv {u : TypeDesc} {p : TypeId × TypeId} (h : mapE u = some p) : u = .map p.1 p.2 := by
 unfold mapE at h
 split at h
 ·cases h; rfl
 ·cases h
theorem arrayE_inv {u : TypeDesc} {p : Nat × TypeId} (h : arrayE u = some p) : u = .array p.1 p.2 := by
 unfold arrayE at h
 split at h
 ·cases h; rfl
 ·cases h
theorem ptrE_inv {u : TypeDesc} {p : TypeId} (h : ptrE u = some p) : u = .pointer p := by
 unfold ptrE at h
 split at h
 ·cases h; rfl
 ·cases h
theorem isIntD_inv {u : TypeDesc} (h : isIntD u = true) : ∃ k, u = .int k := by
 unfold isIntD at h
 split at h
 ·exact ⟨_, rfl⟩
 ·cases h
theorem isU8D_inv {u : TypeDesc} (h : isU8D u = true) : u = .int .u8 := by
 unfold isU8D at h
 split at h
 ·rfl
 ·cases h
theorem isStrD_inv {u : TypeDesc} (h : isStrD u = true) : u = .string := by
 unfold isStrD at h
 split at h
 ·rfl
 ·cases h
theorem mapB_inv {u : Blk} {p : List MapEntry × Nat} (h : mapB u = some p) : u = .map p.1 p.2 := by
 unfold mapB at h
 split at h
 ·cases h; rfl
 ·cases h
theorem cellsEs_inv {u : Blk} {es : Nat} (h : cellsEs u = some es) : ∃ c, u = .cells c es := by
 unfold cellsEs at h
 split at h
 ·cases h; exact ⟨_, rfl⟩
 ·cases h
theorem inB_inv {i : Int} {n : Nat} (h : inB i n = true) : 0 ≤ i ∧ i < n := by
 unfold inB at h
 simp only [Bool.and_eq_true, decide_eq_true_eq] at h
 exact h
theorem beq_inv {a b : Nat} (h : Nat.beq a b = true) : a = b := Nat.eq_of_beq_eq_true h
theorem ble_inv {a b : Nat} (h : Nat.ble a b = true) : a ≤ b := Nat.le_of_ble_eq_true h

theorem op_freeze (H : HR M w0 h w) {s e : TypeId} {b o n c2 : Nat} {u : Value} (hu : VR M (.slice (some ⟨b, o, none⟩) n c2) u) (hs : P.underlying s = some (.slice e)) (he : P.underlying e = some (.int .u8)) (hal : aliveB h (some ⟨b, o, none⟩) = true) :
  ∃ N w' v', (convert s s u).run P w = .ok v' w' ∧ HR (M ++ N) w0 h w' ∧ VR (M ++ N) (.slice (some ⟨b, o, none⟩) n c2) v' := by
 obtain ⟨l, x, c', hl, rfl, _⟩ := slice_inv hu
 have hal' : (match h.get b with | .cells _ _ => true | _ => false) = true := hal
 clear hal
 split at hal'
 case h_2 => cases hal'
 rename_i c es hg
 have hb := H.blk b l hl
 rw [hg] at hb
 obtain ⟨h1, h2, cc, e', fr, h3, h4, h5, h6, h7⟩ := hb
 have hsh : w.shape? l.blk = some (e', cc.size) := by simp [World.shape?, h3]
 have hnew : (w.freeze ⟨l.blk, cc.size, none⟩ 1).heap[l.blk]? = some (.cells cc e' (if fr.1 == fr.2 then (cc.size, cc.size + 1) else (min fr.1 cc.size, max fr.2 (cc.size + 1)))) := by
  unfold World.freeze
  simp only [Nat.one_ne_zero, if_false, Array.getElem?_modify, if_true, h3, Option.map_some]
 have hother : ∀ k, k ≠ l.blk → (w.freeze ⟨l.blk, cc.size, none⟩ 1).heap[k]? = w.heap[k]? := fun k hk => by
  unfold World.freeze
  simp only [Nat.one_ne_zero, if_false, Array.getElem?_modify]
  rw [if_neg (fun q => hk q.symm)]
 refine ⟨[], w.freeze ⟨l.blk, cc.size, none⟩ 1, .slice (some ⟨l.blk, x, none⟩) n c', ?_, ?_, ?_⟩
 ·simp only [convert, Sem.run_bind, run_underlying hs, Result.andThen_ok, beq_self_eq_true, run_underlying he, markStringish, run_shape, hsh, run_freeze, Sem.run_pure]
 ·rw [List.append_nil]
  have H2 := H.turn (w' := w.freeze ⟨l.blk, cc.size, none⟩ 1) b (.cells c es) ?_ ?_ (H.lt_next (by rw [hg]; simp)) ?_ (fun _ => by rw [hg]; rfl)
  ·refine H2.congr rfl fun b' => ?_
   rw [Heap.get_set]
   by_cases e2 : b' = b
   ·rw [if_pos e2, e2, hg]
   ·rw [if_neg e2]
  ·refine H.bel.trans ⟨by unfold World.freeze; rfl, by unfold World.freeze; rfl, by unfold World.freeze; rfl, by unfold World.freeze; simp, fun k hk => hother k (fun e => h2 (e ▸ hk))⟩
  ·intro b' l' hne h1' hd
   refine hother _ fun e2 => ?_
   cases ho' : own (h.get b') with
   | true => exact H.inj b' b l' l h1' hl ho' (by rw [hg]; rfl) hne e2
   | false =>
    have hb' := H.blk b' l' h1'
    cases hx : h.get b' with
    | dead => exact hd hx
    | ro c' => rw [hx] at hb'; exact Base.ro_ne hb'.1 h2 e2
    | _ => rw [hx] at ho'; cases ho'
  ·intro l' hl'
   rw [hl] at hl'
   cases hl'
   refine ⟨h1, h2, cc, e', _, hnew, h4, ?_, h6, h7⟩
   by_cases c0 : fr.1 = fr.2
   ·rw [if_pos (by simpa using c0)]; exact .inr (by simp; omega)
   ·rw [if_neg (by simpa using c0)]
    rcases h5 with h5 | h5
    ·exact absurd h5 c0
    ·exact .inr (by simp; omega)
 ·rw [List.append_nil]; exact hu

theorem evOp_sound (H : HR M w0 h w) (ha : FR M nn tm a.tmps) (o : Oper) (he : evOp P tm h o.op = some (v, h')) : Res P M w0 w (execOp a.eval o) v h' := by
 have hx : execOp a.eval o = execOp a.eval o := rfl
 conv at hx => rhs; unfold execOp
 cases hop : o.op with
 | move x =>
  rw [hop] at he hx
  obtain ⟨u, h1, h2⟩ := ob_inv he
  cases h2
  exact ⟨[], w, _, .inl (by rw [hx]; rfl), by rw [List.append_nil]; exact H, by rw [List.append_nil]; exact opnd_sound ha h1⟩
 | assign x =>
  rw [hop] at he hx
  obtain ⟨u, h1, h2⟩ := ob_inv he
  cases h2
  exact ⟨[], w, _, .inl (by rw [hx]; rfl), by rw [List.append_nil]; exact H, by rw [List.append_nil]; exact opnd_sound ha h1⟩
 | pick c x y =>
  rw [hop] at he hx
  obtain ⟨u, h1, he⟩ := ob_inv he
  obtain ⟨p, h2, he⟩ := ob_inv he
  obtain ⟨v1, h3, he⟩ := ob_inv he
  obtain ⟨v2, h4, he⟩ := ob_inv he
  cases he
  have h5 := opnd_sound ha h1
  rw [asBoolV_inv h2] at h5
  refine ⟨[], w, if p then a.eval x else a.eval y, .inl ?_, by rw [List.append_nil]; exact H, ?_⟩
  ·rw [hx]
   simp only [bool_inv h5, asBool, Sem.run_bind, Sem.run_pure, Result.andThen_ok]
  ·rw [List.append_nil]
   cases p with
   | true => exact opnd_sound ha h3
   | false => exact opnd_sound ha h4
 | alloc e =>
  rw [hop] at he hx
  obtain ⟨z, h1, he⟩ := ob_inv he
  cases he
  exact Res.val (op_alloc H h1) hx
 | box e x =>
  rw [hop] at he hx
  obtain ⟨u, h1, he⟩ := ob_inv he
  cases he
  exact Res.val (op_box H e (opnd_sound ha h1)) hx
 | build t parts =>
  rw [hop] at he hx
  obtain ⟨z, h1, he⟩ := ob_inv he
  obtain ⟨ps, h2, he⟩ := ob_inv he
  obtain ⟨d, h3, he⟩ := ob_inv he
  cases d with
  | struct fs =>
   obtain ⟨pl, h4, he⟩ := ob_inv he
   obtain ⟨c, h5, he⟩ := ob_inv he
   cases he
   exact Res.same H (op_build_struct H ha h1 h2 h3 h4 h5) hx
  | array m e =>
   obtain ⟨n, h4, he⟩ := ob_inv he
   obtain ⟨c, h5, he⟩ := ob_inv he
   cases he
   exact Res.same H (op_build_array H ha h1 h2 h3 h4 h5) hx
  | _ => cases he
 | buildSlice t len parts =>
  rw [hop] at he hx
  obtain ⟨d, h1, he⟩ := ob_inv he
  obtain ⟨e, h2, he⟩ := ob_inv he
  obtain ⟨ps, h3, he⟩ := ob_inv he
  obtain ⟨n, h4, he⟩ := ob_inv he
  obtain ⟨z, h5, he⟩ := ob_inv he
  obtain ⟨g1, he⟩ := gd_inv he
  obtain ⟨g2, he⟩ := gd_inv he
  obtain ⟨g3, he⟩ := gd_inv he
  obtain ⟨c, h6, he⟩ := ob_inv he
  cases he
  rw [sliceE_inv h2] at h1
  exact Res.val (op_buildSlice H ha h1 h3 h4 h5 (ble_inv g1) (beq_inv g2) (ble_inv g3) h6) hx
 | load t x =>
  rw [hop] at he hx
  obtain ⟨u, h1, he⟩ := ob_inv he
  obtain ⟨p, h2, he⟩ := ob_inv he
  obtain ⟨v1, h3, he⟩ := ob_inv he
  cases he
  have h4 := opnd_sound ha h1
  rw [asPtr_inv h2] at h4
  obtain ⟨ag, h5, h6⟩ := ob_inv h3
  cases ag with
  | true =>
   simp only [cnd_true] at h6
   obtain ⟨n, h7, h6⟩ := ob_inv h6
   obtain ⟨c, h8, h6⟩ := ob_inv h6
   cases h6
   obtain ⟨c', h9, h10⟩ := op_load_agg H h4 h5 h7 h8
   exact Res.same H ⟨_, h9, h10⟩ hx
  | false =>
   simp only [cnd_false] at h6
   exact Res.same H (op_load_one H h4 h5 h6) hx
 | store t x y =>
  rw [hop] at he hx
  obtain ⟨u, h1, he⟩ := ob_inv he
  obtain ⟨p, h2, he⟩ := ob_inv he
  obtain ⟨v1, h3, he⟩ := ob_inv he
  obtain ⟨n, h4, he⟩ := ob_inv he
  obtain ⟨g1, he⟩ := gd_inv he
  obtain ⟨h2', h5, he⟩ := ob_inv he
  cases he
  have h6 := opnd_sound ha h1
  rw [asPtr_inv h2] at h6
  exact Res.unit (op_store H h6 (opnd_sound ha h3) h4 (beq_inv g1) h5) hx
 | nilCheck x =>
  rw [hop] at he hx
  obtain ⟨u, h1, he⟩ := ob_inv he
  obtain ⟨g1, he⟩ := gd_inv he
  cases he
  have h2 := opnd_sound ha h1
  refine ⟨[], w, a.eval x, .inl ?_, by rw [List.append_nil]; exact H, by rw [List.append_nil]; exact h2⟩
  rw [hx]
  dsimp only
  generalize a.eval x = y at h2 ⊢
  cases h2 <;> first | (cases g1; done) | rfl | (simp [notNil] at g1; done)
 | binOp op t x y yt =>
  rw [hop] at he hx
  obtain ⟨u1, h1, he⟩ := ob_inv he
  obtain ⟨u2, h2, he⟩ := ob_inv he
  obtain ⟨v1, h3, he⟩ := ob_inv he
  cases he
  exact Res.same H (op_bin (opnd_sound ha h1) (opnd_sound ha h2) h3) hx
 | unOp op t x =>
  rw [hop] at he hx
  obtain ⟨u1, h1, he⟩ := ob_inv he
  obtain ⟨g1, he⟩ := gd_inv he
  obtain ⟨v1, h2, he⟩ := ob_inv he
  obtain ⟨g2, he⟩ := gd_inv he
  cases he
  have h3 := (opnd_sound ha h1).flat1_eq g1
  simp only [h3] at hx
  rcases orE_inv h2 with h2 | ⟨_, h2⟩
  ·refine Res.same H ⟨_, ?_, VR.of_flat1 M g2⟩ hx
   rw [fastUn_eq h2]; rfl
  ·exact Res.same H (op_pure h2 g2) hx
 | convert s d x =>
  rw [hop] at he hx
  obtain ⟨u1, h1, he⟩ := ob_inv he
  have h2 := opnd_sound ha h1
  cases u1 with
  | int k n =>
   obtain ⟨v1, h3, he⟩ := ob_inv he
   obtain ⟨g1, he⟩ := gd_inv he
   cases he
   simp only [int_inv h2] at hx
   rcases orE_inv h3 with h3 | ⟨_, h3⟩
   ·refine Res.same H ⟨_, ?_, VR.of_flat1 M g1⟩ hx
    obtain ⟨sd, q1, h3⟩ := ob_inv h3
    obtain ⟨dd, q2, h3⟩ := ob_inv h3
    cases dd <;> first | (cases h3; done) | skip
    simp only [Option.some.injEq] at h3
    subst h3
    simp only [convert, Sem.run_bind, run_underlying q1, run_underlying q2, Result.andThen_ok, Conv.intToInt, Sem.run_pure, wrapF_eq]
   ·exact Res.same H (op_pure h3 g1) hx
  | string str =>
   obtain ⟨sd, h3, he⟩ := ob_inv he
   obtain ⟨dd, h4, he⟩ := ob_inv he
   obtain ⟨g1, he⟩ := gd_inv he
   rw [isStrD_inv g1] at h3
   cases hd : isStrD dd with
   | true =>
    rw [hd] at he
    simp only [cnd_true] at he
    cases he
    rw [isStrD_inv hd] at h4
    refine Res.same H ⟨.string str, ?_, .str _⟩ hx
    rw [str_inv h2]
    simp only [convert, Sem.run_bind, run_underlying h3, run_underlying h4, Result.andThen_ok, Sem.run_pure]
   | false =>
    rw [hd] at he
    simp only [cnd_false] at he
    obtain ⟨e, h5, he⟩ := ob_inv he
    obtain ⟨ed, h6, he⟩ := ob_inv he
    obtain ⟨g2, he⟩ := gd_inv he
    cases he
    rw [sliceE_inv h5] at h4
    rw [isU8D_inv g2] at h6
    exact Res.val (op_string_bytes H h2 h3 h4 h6) hx
  | slice ad n c2 =>
   obtain ⟨sd, h3, he⟩ := ob_inv he
   obtain ⟨e, h4, he⟩ := ob_inv he
   obtain ⟨dd, h5, he⟩ := ob_inv he
   rw [sliceE_inv h4] at h3
   cases hd : isStrD dd with
   | true =>
    rw [hd] at he
    simp only [cnd_true] at he
    obtain ⟨ed, h6, he⟩ := ob_inv he
    obtain ⟨g2, he⟩ := gd_inv he
    obtain ⟨v1, h7, he⟩ := ob_inv he
    cases he
    rw [isStrD_inv hd] at h5
    rw [isU8D_inv g2] at h6
    unfold strOfSlice at h7
    split at h7
    ·cases h7
     exact Res.same H (op_nil_string h2 h3 h5 h6) hx
    ·obtain ⟨c, h8, h7⟩ := ob_inv h7
     obtain ⟨l, h9, h7⟩ := ob_inv h7
     cases h7
     exact Res.same H (op_bytes_string H h2 h3 h5 h6 h8 h9) hx
    ·cases h7
   | false =>
    rw [hd] at he
    simp only [cnd_false] at he
    obtain ⟨e', h6, he⟩ := ob_inv he
    obtain ⟨ed, h7, he⟩ := ob_inv he
    obtain ⟨g2, he⟩ := gd_inv he
    cases he
    simp only [Bool.and_eq_true] at g2
    obtain ⟨g3, g4, g5⟩ := g2
    have := beq_inv g4
    subst this
    rw [h3] at h5
    cases h5
    cases h6
    rw [isU8D_inv g3] at h7
    cases ad with
    | none => cases g5
    | some ad =>
     obtain ⟨b, o', sp⟩ := ad
     cases sp with
     | some _ => cases g5
     | none => exact Res.val (op_freeze H h2 h3 h7 g5) hx
  | _ => cases he
 | makeFunc fn x c =>
  rw [hop] at he hx
  cases fn with
  | func f =>
   obtain ⟨vx, h1, he⟩ := ob_inv he
   obtain ⟨vc, h2, he⟩ := ob_inv he
   cases he
   exact Res.same H (op_makeFunc ha h1 h2) hx
  | _ => cases he
 | makeMap t r =>
  rw [hop] at he hx
  cases r with
  | none =>
   cases he
   exact Res.val (op_makeMap H t) hx
  | some _ => cases he
 | makeSlice t l c =>
  rw [hop] at he hx
  obtain ⟨d, h1, he⟩ := ob_inv he
  obtain ⟨e, h2, he⟩ := ob_inv he
  obtain ⟨ul, h3, he⟩ := ob_inv he
  obtain ⟨l', h4, he⟩ := ob_inv he
  obtain ⟨uc, h5, he⟩ := ob_inv he
  obtain ⟨c', h6, he⟩ := ob_inv he
  obtain ⟨i, h7, he⟩ := ob_inv he
  obtain ⟨z, h8, he⟩ := ob_inv he
  obtain ⟨g1, he⟩ := gd_inv he
  obtain ⟨g2, he⟩ := gd_inv he
  obtain ⟨g3, he⟩ := gd_inv he
  obtain ⟨g4, he⟩ := gd_inv he
  obtain ⟨g5, he⟩ := gd_inv he
  obtain ⟨g6, he⟩ := gd_inv he
  cases he
  rw [sliceE_inv h2] at h1
  have k1 := opnd_sound ha h3
  have k2 := opnd_sound ha h5
  rw [asIntV_inv h4] at k1
  rw [asIntV_inv h6] at k2
  exact Res.val (op_makeSlice H k1 k2 h1 h7 h8 (of_decide_eq_true g1) (of_decide_eq_true g2) (ble_inv g3) (ble_inv g4) (beq_inv g5) (ble_inv g6)) hx
 | slice t x lo hi mx =>
  rw [hop] at he hx
  obtain ⟨u, h1, he⟩ := ob_inv he
  obtain ⟨lo1, h2, he⟩ := ob_inv he
  obtain ⟨hi1, h3, he⟩ := ob_inv he
  obtain ⟨mx1, h4, he⟩ := ob_inv he
  obtain ⟨d, h5, he⟩ := ob_inv he
  have k1 := opnd_sound ha h1
  have k2 := optOpnd_sound ha h2
  have k3 := optOpnd_sound ha h3
  have k4 := optOpnd_sound ha h4
  cases u with
  | string s =>
   obtain ⟨g1, he⟩ := gd_inv he
   obtain ⟨q, h6, he⟩ := ob_inv he
   cases he
   simp only [Bool.and_eq_true] at g1
   rw [isStrD_inv g1.1] at h5
   cases mx1 with
   | some _ => simp at g1
   | none =>
    cases hm : mx.map a.eval with
    | some _ => rw [hm] at k4; exact k4.elim
    | none =>
     simp only [hm] at hx
     exact Res.same H (op_slice_str k1 h5 k2 k3 h6) hx
  | slice ad n c2 =>
   obtain ⟨e, h6, he⟩ := ob_inv he
   obtain ⟨q, h7, he⟩ := ob_inv he
   obtain ⟨sz, h8, he⟩ := ob_inv he
   rw [sliceE_inv h6] at h5
   obtain ⟨l, r, m, ex⟩ := q
   cases ad with
   | none =>
    cases he
    exact Res.same H (op_slice_nil k1 h5 h8 k2 k3 k4 h7) hx
   | some ad =>
    obtain ⟨b, o', sp⟩ := ad
    cases sp with
    | some _ => cases he
    | none =>
     obtain ⟨v', r1, r2, r3⟩ := op_slice (w := w) k1 h5 h8 k2 k3 k4 h7
     simp only [evCutSl] at he
     cases hc : (ex || Nat.beq (c2 % 2) 1) with
     | true =>
      rw [hc] at he
      simp only [cnd_true] at he
      cases he
      simp only [Bool.or_eq_true] at hc
      exact Res.same H ⟨v', r1, r2 (hc.imp id beq_inv)⟩ hx
     | false =>
      rw [hc] at he
      simp only [cnd_false] at he
      obtain ⟨es, h9, he⟩ := ob_inv he
      obtain ⟨g1, he⟩ := gd_inv he
      cases he
      simp only [Bool.or_eq_false_iff] at hc
      have hne : c2 % 2 ≠ 1 := fun q => by rw [q] at hc; cases hc.2
      obtain ⟨cc, h10⟩ := cellsEs_inv h9
      refine Res.same H ⟨v', r1, r3 ⟨hc.1, by omega⟩ fun ll hll => ?_⟩ hx
      have hb := H.blk b ll hll
      rw [h10] at hb
      rw [hb.1]; exact beq_inv g1
  | pointer ad =>
   cases ad with
   | none => cases he
   | some ad =>
    obtain ⟨b, o', sp⟩ := ad
    cases sp with
    | some _ => cases he
    | none =>
     cases d with
     | array n e =>
      obtain ⟨q, h7, he⟩ := ob_inv he
      obtain ⟨sz, h8, he⟩ := ob_inv he
      cases he
      obtain ⟨l, r, m, ex⟩ := q
      exact Res.same H (op_slice_arr k1 h5 h8 k2 k3 k4 h7) hx
     | pointer arr =>
      obtain ⟨d2, h6, he⟩ := ob_inv he
      obtain ⟨ne, h7, he⟩ := ob_inv he
      obtain ⟨q, h8, he⟩ := ob_inv he
      obtain ⟨sz, h9, he⟩ := ob_inv he
      cases he
      obtain ⟨l, r, m, ex⟩ := q
      rw [arrayE_inv h7] at h6
      exact Res.same H (op_slice_parr k1 h5 h6 h9 k2 k3 k4 h8) hx
     | _ => cases he
  | _ => cases he
 | fieldAddr t x f =>
  rw [hop] at he hx
  obtain ⟨u, h1, he⟩ := ob_inv he
  obtain ⟨p, h2, he⟩ := ob_inv he
  obtain ⟨d, h3, he⟩ := ob_inv he
  obtain ⟨fs, h4, he⟩ := ob_inv he
  obtain ⟨g, h5, he⟩ := ob_inv he
  obtain ⟨n, h6, he⟩ := ob_inv he
  obtain ⟨g1, he⟩ := gd_inv he
  cases he
  have k1 := opnd_sound ha h1
  rw [asPtr_inv h2] at k1
  rw [structE_inv h4] at h3
  exact Res.same H (op_fieldAddr k1 h3 h5 h6 (fun q => by rw [q] at g1; cases g1)) hx
 | field t x f =>
  rw [hop] at he hx
  obtain ⟨u, h1, he⟩ := ob_inv he
  obtain ⟨cs, h2, he⟩ := ob_inv he
  obtain ⟨d, h3, he⟩ := ob_inv he
  obtain ⟨fs, h4, he⟩ := ob_inv he
  obtain ⟨g, h5, he⟩ := ob_inv he
  obtain ⟨v1, h6, he⟩ := ob_inv he
  cases he
  have k1 := opnd_sound ha h1
  rw [asAggV_inv h2] at k1
  rw [structE_inv h4] at h3
  exact Res.same H (op_field k1 h3 h5 h6) hx
 | indexAddr t x ix =>
  rw [hop] at he hx
  obtain ⟨u, h1, he⟩ := ob_inv he
  obtain ⟨ui, h2, he⟩ := ob_inv he
  obtain ⟨i, h3, he⟩ := ob_inv he
  obtain ⟨d, h4, he⟩ := ob_inv he
  have k1 := opnd_sound ha h1
  have k2 := opnd_sound ha h2
  rw [asIntV_inv h3] at k2
  cases u with
  | pointer ad =>
   cases ad with
   | none => cases he
   | some ad =>
    obtain ⟨b, o', sp⟩ := ad
    cases sp with
    | some _ => cases he
    | none =>
     obtain ⟨ne, h5, he⟩ := ob_inv he
     obtain ⟨sz, h6, he⟩ := ob_inv he
     obtain ⟨g1, he⟩ := gd_inv he
     cases he
     rw [arrayE_inv h5] at h4
     obtain ⟨g2, g3⟩ := inB_inv g1
     exact Res.same H (op_indexAddr_arr k1 k2 h4 h6 g2 g3) hx
  | slice ad n c2 =>
   cases ad with
   | none => cases he
   | some ad =>
    obtain ⟨b, o', sp⟩ := ad
    cases sp with
    | some _ => cases he
    | none =>
     obtain ⟨e, h5, he⟩ := ob_inv he
     obtain ⟨sz, h6, he⟩ := ob_inv he
     obtain ⟨g1, he⟩ := gd_inv he
     cases he
     rw [sliceE_inv h5] at h4
     obtain ⟨g2, g3⟩ := inB_inv g1
     exact Res.same H (op_indexAddr_slice k1 k2 h4 h6 g2 g3) hx
  | _ => cases he
 | index t x ix =>
  rw [hop] at he hx
  obtain ⟨u, h1, he⟩ := ob_inv he
  obtain ⟨ui, h2, he⟩ := ob_inv he
  obtain ⟨i, h3, he⟩ := ob_inv he
  obtain ⟨d, h4, he⟩ := ob_inv he
  have k1 := opnd_sound ha h1
  have k2 := opnd_sound ha h2
  rw [asIntV_inv h3] at k2
  cases u with
  | agg cs =>
   obtain ⟨ne, h5, he⟩ := ob_inv he
   obtain ⟨sz, h6, he⟩ := ob_inv he
   obtain ⟨g1, he⟩ := gd_inv he
   obtain ⟨v1, h7, he⟩ := ob_inv he
   cases he
   rw [arrayE_inv h5] at h4
   obtain ⟨g2, g3⟩ := inB_inv g1
   exact Res.same H (op_index_arr k1 k2 h4 h6 g2 g3 h7) hx
  | string s =>
   obtain ⟨g1, he⟩ := gd_inv he
   obtain ⟨b, h5, he⟩ := ob_inv he
   cases he
   simp only [Bool.and_eq_true, decide_eq_true_eq] at g1
   rw [isStrD_inv g1.1] at h4
   exact Res.same H (op_index_str k1 k2 h4 g1.2 h5) hx
  | _ => cases he
 | lookup t m k ok =>
  rw [hop] at he hx
  obtain ⟨um, h1, he⟩ := ob_inv he
  obtain ⟨r, h2, he⟩ := ob_inv he
  obtain ⟨uk, h3, he⟩ := ob_inv he
  obtain ⟨k', h4, he⟩ := ob_inv he
  obtain ⟨d, h5, he⟩ := ob_inv he
  obtain ⟨ke, h6, he⟩ := ob_inv he
  obtain ⟨kd, h7, he⟩ := ob_inv he
  obtain ⟨g1, he⟩ := gd_inv he
  obtain ⟨es, h8, he⟩ := ob_inv he
  obtain ⟨z, h9, he⟩ := ob_inv he
  obtain ⟨res, h10, he⟩ := ob_inv he
  have k1 := opnd_sound ha h1
  have k2 := opnd_sound ha h3
  rw [asMapV_inv h2] at k1
  rw [asIntV_inv h4] at k2
  rw [mapE_inv h6] at h5
  obtain ⟨kd', hkd⟩ := isIntD_inv g1
  rw [hkd] at h7
  obtain ⟨v', r1, r2⟩ := op_lookup H ok k1 k2 h5 h7 (mapB_inv h8) h9 h10
  cases he
  cases res <;> exact Res.same H ⟨v', r1, r2⟩ hx
 | mapUpdate t m k x =>
  rw [hop] at he hx
  obtain ⟨um, h1, he⟩ := ob_inv he
  obtain ⟨r, h2, he⟩ := ob_inv he
  obtain ⟨uk, h3, he⟩ := ob_inv he
  obtain ⟨k', h4, he⟩ := ob_inv he
  obtain ⟨ux, h4b, he⟩ := ob_inv he
  obtain ⟨d, h5, he⟩ := ob_inv he
  obtain ⟨ke, h6, he⟩ := ob_inv he
  obtain ⟨kd, h7, he⟩ := ob_inv he
  obtain ⟨g1, he⟩ := gd_inv he
  obtain ⟨es, h8, he⟩ := ob_inv he
  obtain ⟨res, h10, he⟩ := ob_inv he
  have k1 := opnd_sound ha h1
  have k2 := opnd_sound ha h3
  rw [asMapV_inv h2] at k1
  rw [asIntV_inv h4] at k2
  rw [mapE_inv h6] at h5
  obtain ⟨kd', hkd⟩ := isIntD_inv g1
  rw [hkd] at h7
  obtain ⟨w', r1, r2⟩ := op_mapUpdate H k1 k2 (opnd_sound ha h4b) h5 h7 (mapB_inv h8) h10
  cases he
  cases res <;> exact Res.unit ⟨w', r1, r2⟩ hx
 | insert t m k x =>
  rw [hop] at he hx
  obtain ⟨um, h1, he⟩ := ob_inv he
  obtain ⟨r, h2, he⟩ := ob_inv he
  obtain ⟨uk, h3, he⟩ := ob_inv he
  obtain ⟨k', h4, he⟩ := ob_inv he
  obtain ⟨ux, h4b, he⟩ := ob_inv he
  obtain ⟨d, h5, he⟩ := ob_inv he
  obtain ⟨ke, h6, he⟩ := ob_inv he
  obtain ⟨kd, h7, he⟩ := ob_inv he
  obtain ⟨g1, he⟩ := gd_inv he
  obtain ⟨es, h8, he⟩ := ob_inv he
  obtain ⟨res, h10, he⟩ := ob_inv he
  have k1 := opnd_sound ha h1
  have k2 := opnd_sound ha h3
  rw [asMapV_inv h2] at k1
  rw [asIntV_inv h4] at k2
  rw [mapE_inv h6] at h5
  obtain ⟨kd', hkd⟩ := isIntD_inv g1
  rw [hkd] at h7
  obtain ⟨w', r1, r2⟩ := op_mapUpdate H k1 k2 (opnd_sound ha h4b) h5 h7 (mapB_inv h8) h10
  cases he
  cases res <;> exact Res.unit ⟨w', r1, r2⟩ hx
 | mapEntry t m k =>
  rw [hop] at he hx
  obtain ⟨um, h1, he⟩ := ob_inv he
  obtain ⟨r, h2, he⟩ := ob_inv he
  obtain ⟨uk, h3, he⟩ := ob_inv he
  obtain ⟨k', h4, he⟩ := ob_inv he
  obtain ⟨d, h5, he⟩ := ob_inv he
  obtain ⟨ke, h6, he⟩ := ob_inv he
  obtain ⟨kd, h7, he⟩ := ob_inv he
  obtain ⟨g1, he⟩ := gd_inv he
  obtain ⟨es, h8, he⟩ := ob_inv he
  obtain ⟨z, h9, he⟩ := ob_inv he
  obtain ⟨res, h10, he⟩ := ob_inv he
  have k1 := opnd_sound ha h1
  have k2 := opnd_sound ha h3
  rw [asMapV_inv h2] at k1
  rw [asIntV_inv h4] at k2
  rw [mapE_inv h6] at h5
  obtain ⟨kd', hkd⟩ := isIntD_inv g1
  rw [hkd] at h7
  obtain ⟨w', v', r1, r2, r3⟩ := op_mapEntry H k1 k2 h5 h7 (mapB_inv h8) h9 he h10
  exact Res.val ⟨[], w', v', r1, by rw [List.append_nil]; exact r2, by rw [List.append_nil]; exact r3⟩ hx
 | entryStore t m s x =>
  rw [hop] at he hx
  obtain ⟨um, h1, he⟩ := ob_inv he
  obtain ⟨r, h2, he⟩ := ob_inv he
  obtain ⟨us, h3, he⟩ := ob_inv he
  obtain ⟨b, h4, he⟩ := ob_inv he
  obtain ⟨ux, h5, he⟩ := ob_inv he
  obtain ⟨es, h6, he⟩ := ob_inv he
  obtain ⟨i, h7, he⟩ := ob_inv he
  cases he
  have k1 := opnd_sound ha h1
  have k2 := opnd_sound ha h3
  rw [asMapV_inv h2] at k1
  rw [asIntV_inv h4] at k2
  exact Res.unit (op_entryStore H t k1 k2 (opnd_sound ha h5) (mapB_inv h6) h7) hx
 | extract x i =>
  rw [hop] at he hx
  obtain ⟨u, h1, he⟩ := ob_inv he
  obtain ⟨vs, h2, he⟩ := ob_inv he
  obtain ⟨v1, h3, he⟩ := ob_inv he
  cases he
  have k1 := opnd_sound ha h1
  rw [asTupV_inv h2] at k1
  exact Res.same H (op_extract k1 h3) hx
 | makeInterface t x =>
  rw [hop] at he hx
  obtain ⟨u, h1, he⟩ := ob_inv he
  obtain ⟨d, h2, he⟩ := ob_inv he
  obtain ⟨g1, he⟩ := gd_inv he
  cases he
  exact Res.same H (op_makeInterface (opnd_sound ha h1) h2 (fun ms q => by rw [q] at g1; cases g1)) hx
 | _ => rw [hop] at he; cases he
end

section
variable {P : Program} {M : List Loc} {w0 : Base} {w : World} {h h' : Heap}

theorem src_sound (H : HR M w0 h w) {sz m : Nat} {x u : Value} {new : List Value} (hx : VR M x u) (hs : srcCells h sz x = some (m, new)) (hl : new.length = m * sz) :
  (∀ w1 : World, (Builtin.lenOf u).run P w1 = .ok m w1) ∧ ∃ new' : Array Value, (∀ w1 : World, (∀ q, w1.cell? q = w.cell? q) → (Builtin.firstCells sz m u).run P w1 = .ok new' w1) ∧ LR M new new'.toList := by
 unfold srcCells at hs
 split at hs
 ·cases hs
  obtain ⟨c, _, rfl⟩ := slice_nil_inv hx
  exact ⟨fun _ => rfl, #[], fun _ _ => rfl, LR.nil M⟩
 ·rename_i b o n c2
  obtain ⟨c, h1, h2⟩ := ob_inv hs
  cases h2
  obtain ⟨l, y, c', hll, rfl, k1, k2, k3, _, _⟩ := slice_inv hx
  obtain ⟨h3, cs, h4, h5⟩ := H.rd hll h1
  refine ⟨fun _ => rfl, cs.toArray, fun w1 hw => ?_, by simpa using h4⟩
  have hn : m * sz = cs.length := by rw [← h4.1, h3]
  show (loadCells ⟨l.blk, y, none⟩ (m * sz)).run P w1 = _
  rw [hn]
  refine run_loadCells_list w1 _ _ fun j v hv => ?_
  rw [hw]
  have hj := (List.getElem?_eq_some_iff.1 hv).1
  have hm : m ≠ 0 := by intro e; subst e; rw [Nat.zero_mul] at hn; omega
  rw [addr_add, k3 (by omega)]
  exact h5 j v hv
 ·rename_i s
  cases hs
  rw [str_inv hx]
  refine ⟨fun _ => by rw [str_size]; rfl, (s.extract 0 s.data.toList.length).data.map fun b => .int .u8 b.toNat, fun _ _ => rfl, ?_⟩
  rw [Array.toList_map, ByteArray.data_extract, Array.toList_extract, List.extract_eq_take_drop, Nat.sub_zero, List.drop_zero, List.take_length]
  exact LR.of_map _ _ _ fun b _ => .int _ _
 ·cases hs

theorem next_le {need c : Nat} (h : c < need) : Builtin.nextslicecap need c ≤ 2 * need := by
 unfold Builtin.nextslicecap
 split
 ·omega
 ·split
  ·omega
  ·have key : ∀ (r c : Nat), c < 2 * need → 256 ≤ c → (c < need → c ≤ need) → Builtin.growBy need r c ≤ 2 * need := by
    intro r
    induction r with
    | zero => intro c h1 _ _; simp only [Builtin.growBy]; omega
    | succ r ih =>
     intro c h1 h2 h3
     simp only [Builtin.growBy]
     split
     ·omega
     ·rename_i hlt
      exact ih _ (by omega) (by omega) (by omega)
   exact key 4 c (by omega) (by omega) (by omega)

theorem raw_stores (P : Program) (g : Nat) (e : TypeId) (fr : Nat × Nat) : ∀ (ys : List Value) (p i : Nat) (cc : Array Value) (w : World), w.heap[g]? = some (.cells cc e fr) → frz fr cc.size → p + i + ys.length ≤ cc.size → (∀ y ∈ ys, y.oneCell' = true) →
  ∃ cc', (storeCells ⟨g, p, none⟩ ys i).run P w = .ok () { w with heap := w.heap.setIfInBounds g (.cells cc' e fr) } ∧ cc'.size = cc.size ∧ (∀ j, (j < p + i ∨ p + i + ys.length ≤ j) → cc'[j]? = cc[j]?) ∧ ∀ j y, ys[j]? = some y → cc'[p + i + j]? = some y
 | [], p, i, cc, w, hg, hf, hl, h1 => by
  refine ⟨cc, ?_, rfl, fun _ _ => rfl, fun j y h => by simp at h⟩
  simp only [storeCells, Sem.run_pure]
  congr 1
  have hs : w.heap.setIfInBounds g (.cells cc e fr) = w.heap := by
   apply Array.ext_getElem?
   intro k
   rw [Array.getElem?_setIfInBounds]
   split
   ·rename_i e2; subst e2
    split
    ·exact hg.symm
    ·rename_i hlt; have := (Array.getElem?_eq_some_iff.1 hg).1; omega
   ·rfl
  rw [hs]
 | y :: ys, p, i, cc, w, hg, hf, hl, h1 => by
  simp only [List.length_cons] at hl
  have hgl : g < w.heap.size := (Array.getElem?_eq_some_iff.1 hg).1
  have hcell : w.cell? ⟨g, p + i, none⟩ = some cc[p + i] := by simp [World.cell?, hg, show p + i < cc.size by omega]
  have hfz : w.frozen? ⟨g, p + i, none⟩ = false := by
   have : ¬ (fr.1 ≤ p + i ∧ p + i < fr.2) := by rcases hf with hf | hf <;> omega
   simp only [World.frozen?, hg]
   cases hd : (decide (fr.1 ≤ p + i) && decide (p + i < fr.2)) with
   | false => rfl
   | true => simp at hd; exact absurd hd this
  have hset : w.setCell ⟨g, p + i, none⟩ y = { w with heap := w.heap.setIfInBounds g (.cells (cc.setIfInBounds (p + i) y) e fr) } := by
   unfold World.setCell
   congr 1
   apply Array.ext_getElem?
   intro k
   rw [Array.getElem?_modify, Array.getElem?_setIfInBounds]
   by_cases e2 : g = k
   ·subst e2
    have hgg := (Array.getElem?_eq_some_iff.1 hg).2
    simp [hgl, hgg]
   ·simp [e2]
  have hst : (store ⟨g, p + i, none⟩ y).run P w = .ok () { w with heap := w.heap.setIfInBounds g (.cells (cc.setIfInBounds (p + i) y) e fr) } := by
   rw [run_store P w _ y _ (h1 y (List.mem_cons_self ..)), hcell]
   simp [hfz, hset]
  obtain ⟨cc', r1, r2, r3, r4⟩ := raw_stores P g e fr ys p (i + 1) (cc.setIfInBounds (p + i) y) { w with heap := w.heap.setIfInBounds g (.cells (cc.setIfInBounds (p + i) y) e fr) } (heap_put_self w g _ hgl) (by simpa using hf) (by simp; omega) (fun z hz => h1 z (List.mem_cons_of_mem _ hz))
  refine ⟨cc', ?_, by simpa using r2, fun j hj => ?_, fun j z hz => ?_⟩
  ·simp only [storeCells, addr_add, Sem.run_bind, hst, Result.andThen_ok, r1]
   congr 2
   simp
  ·rw [r3 j (by simp only [List.length_cons] at hj; omega), Array.getElem?_setIfInBounds_ne (by simp only [List.length_cons] at hj; omega)]
  ·cases j with
   | zero =>
    simp at hz
    subst hz
    rw [r3 (p + i + 0) (by omega), Nat.add_zero, Array.getElem?_setIfInBounds_self]
    simp [show p + i < cc.size by omega]
   | succ j => have := r4 j z (by simpa using hz); rwa [show p + (i + 1) + j = p + i + (j + 1) by omega] at this

theorem ap_run_in {st xt e : TypeId} {xd : TypeDesc} {sz n m c' : Nat} {base : Option Addr} {u x : Value} {ty : TypeId} {ts : Array TypeId} {args : Array Value} {new' : Array Value} (h0 : ts[0]? = some st) (h1 : ts[1]? = some xt) (a0 : args[0]? = some (.slice base n c')) (a1 : args[1]? = some u) (hs : P.underlying st = some (.slice e)) (hx : P.underlying xt = some xd) (hxd : ∀ k, xd ≠ .int k)
  (hz : sizeT P e = some sz) (hl : ∀ w1 : World, (Builtin.lenOf u).run P w1 = .ok m w1) (hf : (Builtin.firstCells sz m u).run P w = .ok new' w) (hle : n + m ≤ c') :
  (Builtin.append_ ts ty args).run P w = (match base with
   | some a => ((storeCells (a.add (n * sz)) new'.toList).run P w).andThen fun _ w' => .ok (.slice base (n + m) c') w'
   | none => .ok (.slice base (n + m) c') w) := by
 have hz0 : (match xd with | .int _ => true | _ => false) = false := by cases xd <;> first | rfl | exact absurd rfl (hxd _)
 unfold Builtin.append_
 simp only [h0, a0, a1, h1, Sem.run_bind, run_underlying hs, run_underlying hx, Result.andThen_ok, run_sizeOf hz, Sem.run_pure, hz0, Bool.false_eq_true, if_false, hl, hle, if_true, Bool.not_false, hf]
 cases base with
 | none => rfl
 | some a =>
  simp only [Sem.run_bind, Sem.run_pure]
theorem ap_run_out {st xt e : TypeId} {xd : TypeDesc} {i : TypeInfo} {z : Value} {n m c' : Nat} {base : Option Addr} {u x : Value} {ty : TypeId} {ts : Array TypeId} {args : Array Value} {old' new' : Array Value} (h0 : ts[0]? = some st) (h1 : ts[1]? = some xt) (a0 : args[0]? = some (.slice base n c')) (a1 : args[1]? = some u) (hs : P.underlying st = some (.slice e)) (hx : P.underlying xt = some xd) (hxd : ∀ k, xd ≠ .int k)
  (hi : P.info? e = some i) (hz : ∀ w : World, (zeroValue e).run P w = .ok z w) (hl : ∀ w1 : World, (Builtin.lenOf u).run P w1 = .ok m w1) (hf : ∀ d, (Builtin.firstCells i.size m u).run P { w with drawn := d } = .ok new' { w with drawn := d }) (ho : ∀ d, (Builtin.firstCells i.size n (.slice base n c')).run P { w with drawn := d } = .ok old' { w with drawn := d })
  (hle : ¬ n + m ≤ c') (hb : (n + m) * i.bytes ≤ 1099511627776) (hb2 : n + m ≤ 1099511627776) :
  ∃ cap, n + m ≤ cap ∧ (Builtin.append_ ts ty args).run P w = .ok (.slice (some ⟨w.heap.size, 0, none⟩) (n + m) cap) (w.drew.alloc (.cells (old' ++ new' ++ Builtin.zeroCells z.cells (cap - (n + m))) e)) := by
 have hz0 : (match xd with | .int _ => true | _ => false) = false := by cases xd <;> first | rfl | exact absurd rfl (hxd _)
 have hsz : sizeT P e = some i.size := by unfold sizeT; rw [hi]
 obtain ⟨cap, hcap⟩ : ∃ cap, cap = (Question.appendCap (n + m) c' e).cut (w.tape w.drawn (Question.appendCap (n + m) c' e)) := ⟨_, rfl⟩
 have hge : n + m ≤ cap := by rw [hcap]; exact Nat.le_add_right _ _
 have hf0 : (Question.appendCap (n + m) c' e).forced = false := rfl
 have hbig : ¬ ((n + m : Nat) : Int) > IntKind.i64.max := by
  have : IntKind.i64.max = 9223372036854775807 := by decide
  rw [this]; omega
 have hnx : ¬ Builtin.nextslicecap (n + m) c' * i.bytes > 2 ^ 48 := by
  have h1 := next_le (need := n + m) (c := c') (by omega)
  have h2 : Builtin.nextslicecap (n + m) c' * i.bytes ≤ 2 * (n + m) * i.bytes := Nat.mul_le_mul_right _ h1
  have h3 : 2 * (n + m) * i.bytes = 2 * ((n + m) * i.bytes) := by rw [Nat.mul_assoc]
  intro h4
  generalize Builtin.nextslicecap (n + m) c' * i.bytes = q at h2 h4
  generalize (n + m) * i.bytes = q2 at h3 hb
  omega
 refine ⟨cap, hge, ?_⟩
 unfold Builtin.append_
 simp only [h0, a0, a1, h1, Sem.run_bind, run_underlying hs, run_underlying hx, Result.andThen_ok, run_sizeOf hsz, Sem.run_pure, hz0, Bool.false_eq_true, if_false, hl, hle, Bool.not_false, hbig, false_and, run_typeInfo hi, hnx, run_choose, hf0, run_askRoom]
 rw [← hcap]
 simp only [ho, hf, Result.andThen_ok, hz, run_newRow, if_true, Sem.run_pure, Sem.run_bind, Result.andThen_ok]
 rfl

theorem isIntD_not {xd : TypeDesc} (h : isIntD xd = false) : ∀ k, xd ≠ .int k := fun k e => by subst e; cases h
theorem out_res (H : HR M w0 h w) {e : TypeId} {i : TypeInfo} {z : Value} {n m cap : Nat} {old new : List Value} {old' new' : Array Value} (hz : zeroT P e = some z) (hzl : (EV.cellsL z).length = i.size) (h1 : 1 ≤ i.size) (ho : LR M old old'.toList) (hn : LR M new new'.toList) (hol : old.length = n * i.size) (hnl : new.length = m * i.size) (hcap : n + m ≤ cap) :
  ∃ N, HR (M ++ N) w0 (h.push (.cells (old ++ new) i.size)) (w.drew.alloc (.cells (old' ++ new' ++ Builtin.zeroCells z.cells (cap - (n + m))) e)) ∧ VR (M ++ N) (.slice (some ⟨h.next, 0, none⟩) (n + m) (2 * (n + m))) (.slice (some ⟨w.heap.size, 0, none⟩) (n + m) cap) := by
 have hzs : z.cells.size = i.size := by rw [← Array.length_toList, cells_toList, hzl]
 have hos : old'.size = n * i.size := by rw [← Array.length_toList, ← ho.1, hol]
 have hns : new'.size = m * i.size := by rw [← Array.length_toList, ← hn.1, hnl]
 have hsize : (old' ++ new' ++ Builtin.zeroCells z.cells (cap - (n + m))).size = cap * i.size := by
  rw [Array.size_append, Array.size_append, hos, hns]
  unfold Builtin.zeroCells
  rw [Array.size_map, Array.size_range, hzs, ← Nat.add_mul, ← Nat.add_mul]
  congr 1
  omega
 have hlr := ho.append hn
 refine ⟨[⟨w.heap.size, 0, (old' ++ new' ++ Builtin.zeroCells z.cells (cap - (n + m))).size, i.size⟩], H.drew.alloc_cells (old ++ new) i.size _ e (0, 0) (frz_zero _) ?_ (fun j x hx => ?_), ?_⟩
 ·rw [hsize, List.length_append, hol, hnl, ← Nat.add_mul]
  exact Nat.mul_le_mul_right _ hcap
 ·obtain ⟨y, h2, h3⟩ := hlr.get hx
  refine ⟨y, ?_, h3⟩
  have hj := (List.getElem?_eq_some_iff.1 h2).1
  rw [Array.getElem?_append_left (by rw [Array.size_append]; simp at hj; exact hj), ← Array.getElem?_toList, Array.toList_append]
  exact h2
 ·refine .sg _ _ _ _ _ _ ⟨w.heap.size, 0, _, i.size⟩ (get_new M _ _ H.len) hcap (Nat.le_refl _) (fun _ => ⟨rfl, ?_⟩)
  simp only [hsize]
  omega
theorem append_sound (H : HR M w0 h w) {st xt : TypeId} {s x us ux v : Value} {ty : TypeId} {ts : Array TypeId} {args : Array Value} (h0 : ts[0]? = some st) (h1 : ts[1]? = some xt) (a0 : args[0]? = some us) (a1 : args[1]? = some ux) (hvs : VR M s us) (hvx : VR M x ux) (he : evAppend P h st xt s x = some (v, h')) :
  ∃ N w' v', (Builtin.append_ ts ty args).run P w = .ok v' w' ∧ HR (M ++ N) w0 h' w' ∧ VR (M ++ N) v v' := by
 obtain ⟨sd, e1, he⟩ := ob_inv he
 obtain ⟨e, e2, he⟩ := ob_inv he
 obtain ⟨xd, e3, he⟩ := ob_inv he
 obtain ⟨g1, he⟩ := gd_inv he
 obtain ⟨i, e4, he⟩ := ob_inv he
 obtain ⟨z, e5, he⟩ := ob_inv he
 obtain ⟨g2, he⟩ := gd_inv he
 obtain ⟨g3, he⟩ := gd_inv he
 obtain ⟨src, e6, he⟩ := ob_inv he
 obtain ⟨m, new⟩ := src
 rw [sliceE_inv e2] at e1
 have hxd : ∀ k, xd ≠ .int k := isIntD_not (by simpa using g1)
 have hsz : sizeT P e = some i.size := by unfold sizeT; rw [e4]
 have hzl := beq_inv g2
 have hone := ble_inv g3
 cases s with
 | slice base n c2 =>
  obtain ⟨g4, he⟩ := gd_inv he
  have hnl := beq_inv g4
  obtain ⟨s1, new', s2, s3⟩ := src_sound (P := P) H hvx e6 hnl
  cases hle : Nat.ble (n + m) (c2 / 2) with
  | true =>
   rw [hle] at he
   simp only [cnd_true] at he
   have hle' := ble_inv hle
   cases base with
   | none =>
    obtain ⟨g5, he⟩ := gd_inv he
    cases he
    obtain ⟨c, hc, rfl⟩ := slice_nil_inv hvs
    refine ⟨[], w, .slice none (n + m) c, ?_, by rw [List.append_nil]; exact H, by rw [List.append_nil, hc]; exact .snil _ _⟩
    exact ap_run_in (x := ux) (base := none) h0 h1 a0 a1 e1 e3 hxd hsz s1 (s2 w fun _ => rfl) (by omega)
   | some ad =>
    obtain ⟨b, o, sp⟩ := ad
    cases sp with
    | some _ => cases he
    | none =>
     obtain ⟨h2, e7, he⟩ := ob_inv he
     cases he
     obtain ⟨l, x', c', hl, rfl, k1, k2, k3, k4, k5⟩ := slice_inv hvs
     have hrun := ap_run_in (ty := ty) (x := ux) h0 h1 a0 a1 e1 e3 hxd hsz s1 (s2 w fun _ => rfl) (show n + m ≤ c' by omega)
     have hval : VR M (.slice (some ⟨b, o, none⟩) (n + m) c2) (.slice (some ⟨l.blk, x', none⟩) (n + m) c') := by
      rcases Nat.mod_two_eq_zero_or_one c2 with hc | hc
      ·have e : c2 = 2 * (c2 / 2) := by omega
       rw [e]
       exact .sg _ _ _ _ _ _ l hl k2 (by omega) (fun q => ⟨k3 q, k5 hc q⟩)
      ·have e : c2 = 2 * (c2 / 2) + 1 := by omega
       rw [e, k4 hc]
       exact .sx _ _ _ _ _ l hl (by omega) (fun q => k3 (by rw [k4 hc]; exact q))
     obtain ⟨w', r1, r2⟩ := H.wr P hl e7 s3
     by_cases hc0 : c' = 0
     ·have hm0 : new = [] := by
       have : m = 0 := by omega
       subst this
       rw [Nat.zero_mul] at hnl
       exact List.length_eq_zero_iff.1 hnl
      subst hm0
      have hn0 : new'.toList = [] := s3.nil_inv
      rw [hn0] at hrun r1
      simp only [storeCells, Sem.run_pure] at r1
      cases r1
      refine ⟨[], w, _, ?_, by rw [List.append_nil]; exact r2, by rw [List.append_nil]; exact hval⟩
      rw [hrun]
      simp only [storeCells, Sem.run_pure, Result.andThen_ok]
     ·refine ⟨[], w', _, ?_, by rw [List.append_nil]; exact r2, by rw [List.append_nil]; exact hval⟩
      rw [hrun]
      simp only [addr_add, k3 hc0]
      rw [Nat.add_assoc, r1]
      rfl
  | false =>
   rw [hle] at he
   simp only [cnd_false] at he
   have hle' : ¬ n + m ≤ c2 / 2 := fun q => by rw [Nat.ble_eq_true_of_le q] at hle; cases hle
   obtain ⟨g5, he⟩ := gd_inv he
   obtain ⟨g6, he⟩ := gd_inv he
   have b1 := ble_inv g5
   have b2 := ble_inv g6
   have zr : ∀ w1 : World, (zeroValue e).run P w1 = .ok z w1 := fun w1 => (run_zero e5 w1).1
   cases base with
   | none =>
    obtain ⟨g7, he⟩ := gd_inv he
    cases he
    have hn0 := beq_inv g7
    subst hn0
    obtain ⟨c, hc, rfl⟩ := slice_nil_inv hvs
    obtain ⟨cap, q1, q2⟩ := ap_run_out (ty := ty) (x := ux) (base := none) (old' := #[]) h0 h1 a0 a1 e1 e3 hxd e4 zr s1 (fun d => s2 _ fun _ => rfl) (fun d => rfl) (show ¬ 0 + m ≤ c by omega) b1 b2
    obtain ⟨N, q3, q4⟩ := out_res H e5 hzl hone (LR.nil M) s3 (n := 0) (by simp) hnl q1
    exact ⟨N, _, _, q2, q3, q4⟩
   | some ad =>
    obtain ⟨b, o, sp⟩ := ad
    cases sp with
    | some _ => cases he
    | none =>
     obtain ⟨old, e7, he⟩ := ob_inv he
     have hsrc : srcCells h i.size (.slice (some ⟨b, o, none⟩) n c2) = some (n, old) := by unfold srcCells; simp only [e7]; rfl
     have hold : old.length = n * i.size := by
      unfold Heap.rd at e7
      split at e7
      ·cases hb : Nat.ble (o + n * i.size) _ with
       | true => rw [hb] at e7; have := ble_inv hb; cases e7; simp; omega
       | false => rw [hb] at e7; cases e7
      ·cases hb : Nat.ble (o + n * i.size) _ with
       | true => rw [hb] at e7; have := ble_inv hb; cases e7; simp; omega
       | false => rw [hb] at e7; cases e7
      ·cases e7
     obtain ⟨_, old', t2, t3⟩ := src_sound (P := P) H hvs hsrc hold
     obtain ⟨l, x', c', hl, rfl, k1, k2, k3, k4, k5⟩ := slice_inv hvs
     cases hex : Nat.beq (c2 % 2) 1 with
     | true =>
      rw [hex] at he
      simp only [cnd_true] at he
      cases he
      have hc' := k4 (beq_inv hex)
      obtain ⟨cap, q1, q2⟩ := ap_run_out (ty := ty) (x := ux) h0 h1 a0 a1 e1 e3 hxd e4 zr s1 (fun d => s2 _ fun _ => rfl) (fun d => t2 _ fun _ => rfl) (show ¬ n + m ≤ c' by omega) b1 b2
      obtain ⟨N, q3, q4⟩ := out_res H e5 hzl hone t3 s3 hold hnl q1
      exact ⟨N, _, _, q2, q3, q4⟩
     | false =>
      rw [hex] at he
      simp only [cnd_false] at he
      obtain ⟨es, e8, he⟩ := ob_inv he
      obtain ⟨g7, he2⟩ := gd_inv he
      obtain ⟨g8, he3⟩ := gd_inv he2
      have hes := beq_inv g7
      clear he he2 g7
      subst hes
      cases he3
      obtain ⟨cc0, hcb⟩ := cellsEs_inv e8
      have Hk := H.kill b (H.lt_next (by rw [hcb]; simp))
      by_cases hfit : n + m ≤ c'
      ·-- in place, though that is not known
       have hc0 : c' ≠ 0 := by omega
       have hx' := k3 hc0
       subst hx'
       have hb := H.blk b l hl
       rw [hcb] at hb
       obtain ⟨p1, p2, cc, e', fr, p3, p4, p5, p6, p7⟩ := hb
       have hev : c2 % 2 = 0 := by
        rcases Nat.mod_two_eq_zero_or_one c2 with q | q
        ·exact q
        ·rw [q] at hex; cases hex
       have hroom := k5 hev hc0
       rw [p1] at hroom
       have hnew : new'.toList.length = m * i.size := by rw [← s3.1, hnl]
       have hfitc : n * i.size + m * i.size ≤ c' * i.size := by rw [← Nat.add_mul]; exact Nat.mul_le_mul_right _ hfit
       obtain ⟨cc', r1, r2, r3, r4⟩ := raw_stores P l.blk e' fr new'.toList (l.sh + o + n * i.size) 0 cc w p3 (by rw [p4]; exact p5) (by omega) (fun y hy => by
        obtain ⟨j, hj⟩ := List.getElem?_of_mem hy
        have hjl : j < new.length := by have := (List.getElem?_eq_some_iff.1 hj).1; rw [s3.1]; exact this
        have := s3.2 j _ y (List.getElem?_eq_getElem hjl) hj
        rw [← this.scal]
        exact List.all_eq_true.1 g8 _ (List.getElem_mem hjl))
       have hrun := ap_run_in (ty := ty) (x := ux) h0 h1 a0 a1 e1 e3 hxd hsz s1 (s2 w fun _ => rfl) hfit
       have hblk : l.blk < w.heap.size := (Array.getElem?_eq_some_iff.1 p3).1
       have Hn : HR (M ++ [⟨l.blk, l.sh + o, l.size, i.size⟩]) w0 ((h.set b .dead).push (.cells (old ++ new) i.size)) { w with heap := w.heap.setIfInBounds l.blk (.cells cc' e' fr) } := by
        refine Hk.ext ⟨l.blk, l.sh + o, l.size, i.size⟩ _ (H.bel.trans ⟨rfl, rfl, rfl, by simp, fun k hk => heap_put_other w l.blk k _ (fun e => (H.blk b l hl).ge (by rw [hcb]; rfl) (e ▸ hk))⟩) (fun b' l' h1' hd => ?_) ?_ (fun _ b' l' h1' ho' => ?_)
        ·refine heap_put_other w l.blk l'.blk _ fun eq => ?_
         rw [Heap.get_set] at hd
         by_cases eb : b' = b
         ·rw [if_pos eb] at hd; exact hd rfl
         ·rw [if_neg eb] at hd
          cases ho : own (h.get b') with
          | true => exact H.inj b' b l' l h1' hl ho (by rw [hcb]; rfl) eb eq
          | false =>
           have hb' := H.blk b' l' h1'
           cases hxx : h.get b' with
           | dead => exact hd hxx
           | ro c' => rw [hxx] at hb'; exact Base.ro_ne hb'.1 ((H.blk b l hl).ge (by rw [hcb]; rfl)) eq
           | _ => rw [hxx] at ho; cases ho
        ·refine ⟨rfl, p2, cc', e', fr, heap_put_self w _ _ hblk, by rw [r2, p4], p5, ?_, fun j y hy => ?_⟩
         ·simp only [List.length_append, hold, hnl]; omega
         ·by_cases hj : j < old.length
          ·rw [List.getElem?_append_left hj] at hy
           obtain ⟨u1, hu1, hu2⟩ := t3.get hy
           obtain ⟨y0, hy0, hy1⟩ : ∃ y0, cc0[o + j]? = some y0 ∧ y0 = y := by
            unfold Heap.rd at e7
            rw [hcb] at e7
            simp only at e7
            cases hbb : Nat.ble (o + n * i.size) cc0.length with
            | false => rw [hbb] at e7; cases e7
            | true =>
             rw [hbb] at e7
             cases e7
             have hjn : j < n * i.size := by rw [hold] at hj; exact hj
             rw [List.getElem?_take_of_lt hjn, List.getElem?_drop] at hy
             exact ⟨y, hy, rfl⟩
           subst hy1
           obtain ⟨z1, hz1, hz2⟩ := p7 _ _ hy0
           refine ⟨z1, ?_, hz2.mono _⟩
           show cc'[l.sh + o + j]? = some z1
           rw [r3 _ (.inl (by rw [hold] at hj; omega)), show l.sh + o + j = l.sh + (o + j) by omega]
           exact hz1
          ·rw [List.getElem?_append_right (by omega)] at hy
           obtain ⟨u1, hu1, hu2⟩ := s3.get hy
           refine ⟨u1, ?_, hu2.mono _⟩
           have := r4 _ _ hu1
           rwa [show l.sh + o + n * i.size + 0 + (j - old.length) = l.sh + o + j by rw [hold] at hj ⊢; omega] at this
        ·intro eq
         rw [Heap.get_set] at ho'
         by_cases eb : b' = b
         ·rw [if_pos eb] at ho'; cases ho'
         ·rw [if_neg eb] at ho'
          exact H.inj b' b l' l h1' hl ho' (by rw [hcb]; rfl) eb eq
       refine ⟨_, _, .slice (some ⟨l.blk, l.sh + o, none⟩) (n + m) c', ?_, Hn, ?_⟩
       ·rw [hrun]
        simp only [addr_add, r1, Result.andThen_ok]
       ·have hnx : (h.set b .dead).next = h.next := rfl
        exact .sg _ _ _ _ _ _ ⟨l.blk, l.sh + o, l.size, i.size⟩ (get_new M _ _ H.len) hfit (Nat.le_refl _) (fun _ => ⟨rfl, hroom⟩)
      ·obtain ⟨cap, q1, q2⟩ := ap_run_out (ty := ty) (x := ux) h0 h1 a0 a1 e1 e3 hxd e4 zr s1 (fun d => s2 _ fun _ => rfl) (fun d => t2 _ fun _ => rfl) hfit b1 b2
       obtain ⟨N, q3, q4⟩ := out_res Hk e5 hzl hone t3 s3 hold hnl q1
       exact ⟨N, _, _, q2, q3, q4⟩
 | _ => cases he

theorem slice_any_inv {base : Option Addr} {n c2 : Nat} {u : Value} (hv : VR M (.slice base n c2) u) : ∃ base' c', u = .slice base' n c' := by
 cases hv with
 | snil n c => exact ⟨_, _, rfl⟩
 | sx b o n c x l h => exact ⟨_, _, rfl⟩
 | sg b o n c c' x l h => exact ⟨_, _, rfl⟩
theorem first_sound (H : HR M w0 h w) {sz k m : Nat} {x ux : Value} {c : List Value} (hvx : VR M x ux) (e4 : srcLen x = some m) (hk : k ≤ m) (e5 : srcFirst h k sz x = some c) :
  ∃ c' : Array Value, (Builtin.firstCells sz k ux).run P w = .ok c' w ∧ LR M c c'.toList := by
 cases x with
 | slice base q c3 =>
  cases e4
  cases base with
  | none =>
   obtain ⟨g1, e5⟩ := gd_inv e5
   cases e5
   obtain ⟨q, _, rfl⟩ := slice_nil_inv hvx
   exact ⟨#[], rfl, LR.nil M⟩
  | some ad =>
   obtain ⟨b, o, sp⟩ := ad
   cases sp with
   | some _ => cases e5
   | none =>
    obtain ⟨l, y, c', hll, rfl, k1, k2, k3, _, _⟩ := slice_inv hvx
    obtain ⟨h3, cs, h4, h5⟩ := H.rd hll e5
    refine ⟨cs.toArray, ?_, by simpa using h4⟩
    have hn : k * sz = cs.length := by rw [← h4.1, h3]
    show (loadCells ⟨l.blk, y, none⟩ (k * sz)).run P w = _
    rw [hn]
    refine run_loadCells_list w _ _ fun j v hv => ?_
    have hj := (List.getElem?_eq_some_iff.1 hv).1
    have hm : k ≠ 0 := by intro e; rw [e, Nat.zero_mul] at hn; omega
    rw [addr_add, k3 (by omega)]
    exact h5 j v hv
 | string s =>
  cases e5
  rw [str_inv hvx]
  refine ⟨(s.extract 0 k).data.map fun b => .int .u8 b.toNat, rfl, ?_⟩
  rw [Array.toList_map, ByteArray.data_extract, Array.toList_extract, List.extract_eq_take_drop, Nat.sub_zero, List.drop_zero]
  exact LR.of_map _ _ _ fun b _ => .int _ _
 | _ => cases e4
theorem len_other {d : TypeDesc} {n : Nat} {t : TypeId} {ux : Value} {ty : TypeId} {ts : Array TypeId} {args : Array Value} (h0 : ts[0]? = some t) (a0 : args[0]? = some ux) (e1 : P.underlying t = some d)
  (h3 : (cnd (ptrE d).isSome (ob (ptrE d) fun a => ob (P.underlying a) fun d => ob (arrayE d) fun ne => some ne.1) (ob (arrayE d) fun ne => some ne.1)) = some n) : (Builtin.len_ ts ty args).run P w = .ok (goInt n) w := by
 cases hp : ptrE d with
 | some a =>
  rw [hp] at h3
  simp only [Option.isSome_some, cnd_true] at h3
  obtain ⟨a', q1, h3⟩ := ob_inv h3
  cases q1
  obtain ⟨d2, q2, h3⟩ := ob_inv h3
  obtain ⟨ne, q3, h3⟩ := ob_inv h3
  cases h3
  rw [ptrE_inv hp] at e1
  rw [arrayE_inv q3] at q2
  unfold Builtin.len_
  simp only [h0, a0, Sem.run_bind, run_underlying e1, Result.andThen_ok, run_underlying q2, Sem.run_pure]
 | none =>
  rw [hp] at h3
  simp only [Option.isSome_none, cnd_false] at h3
  obtain ⟨ne, q3, h3⟩ := ob_inv h3
  cases h3
  rw [arrayE_inv q3] at e1
  unfold Builtin.len_
  simp only [h0, a0, Sem.run_bind, run_underlying e1, Result.andThen_ok, Sem.run_pure]
theorem copy_sound (H : HR M w0 h w) {dt : TypeId} {d x ud ux v : Value} {ty : TypeId} {ts : Array TypeId} {args : Array Value} (h0 : ts[0]? = some dt) (a0 : args[0]? = some ud) (a1 : args[1]? = some ux) (hvd : VR M d ud) (hvx : VR M x ux) (he : evCopy P h dt d x = some (v, h')) :
  ∃ N w' v', (Builtin.copy_ ts ty args).run P w = .ok v' w' ∧ HR (M ++ N) w0 h' w' ∧ VR (M ++ N) v v' := by
 obtain ⟨dd, e1, he⟩ := ob_inv he
 obtain ⟨e, e2, he⟩ := ob_inv he
 obtain ⟨sz, e3, he⟩ := ob_inv he
 obtain ⟨m, e4, he⟩ := ob_inv he
 rw [sliceE_inv e2] at e1
 cases d with
 | slice base n c2 =>
  obtain ⟨c, e5, he⟩ := ob_inv he
  have hlen : (Builtin.lenOf ux).run P w = .ok m w := by
   cases x with
   | slice b k c => cases e4; obtain ⟨b', c', rfl⟩ := slice_any_inv hvx; rfl
   | string s => cases e4; rw [str_inv hvx, str_size]; rfl
   | _ => cases e4
  have hfirst : ∃ c' : Array Value, (Builtin.firstCells sz (Nat.min m n) ux).run P w = .ok c' w ∧ LR M c c'.toList := first_sound (P := P) H hvx e4 (Nat.min_le_left m n) e5
  obtain ⟨cc, f1, f2⟩ := hfirst
  have hpre : ∀ base' c', ud = .slice base' n c' → (Builtin.copy_ ts ty args).run P w = (match base' with
    | some a => ((storeCells a cc.toList).run P w).andThen fun _ w' => .ok (goInt (Nat.min m n)) w'
    | none => .ok (goInt (Nat.min m n)) w) := fun base' c' eq => by
   subst eq
   unfold Builtin.copy_
   simp only [h0, a0, a1, Sem.run_bind, run_underlying e1, Result.andThen_ok, hlen, run_sizeOf e3, f1]
   cases base' with
   | none => rfl
   | some a => simp only [Sem.run_bind, Sem.run_pure]
  cases base with
  | none =>
   obtain ⟨g1, he⟩ := gd_inv he
   cases he
   obtain ⟨q, _, rfl⟩ := slice_nil_inv hvd
   exact ⟨[], w, _, hpre none q rfl, by rw [List.append_nil]; exact H, .int _ _⟩
  | some ad =>
   obtain ⟨b, o, sp⟩ := ad
   cases sp with
   | some _ => cases he
   | none =>
    obtain ⟨h2, e6, he⟩ := ob_inv he
    cases he
    obtain ⟨l, x', c', hl, rfl, k1, k2, k3, k4, k5⟩ := slice_inv hvd
    obtain ⟨w', r1, r2⟩ := H.wr P hl e6 f2
    by_cases hc0 : c' = 0
    ·have hn0 : n = 0 := by omega
     have hmin : Nat.min m n = 0 := by rw [hn0]; exact Nat.min_zero _
     have hcl : cc.toList = [] := by
      have : c = [] := by
       rw [hmin] at e5
       unfold srcFirst at e5
       split at e5
       ·obtain ⟨_, e5⟩ := gd_inv e5; cases e5; rfl
       ·rw [Nat.zero_mul] at e5
        have := (H.rd (slice_inv hvx).choose_spec.choose_spec.choose_spec.1 e5).1
        exact List.length_eq_zero_iff.1 this
       ·cases e5; rfl
       ·cases e5
      subst this
      exact f2.nil_inv
     rw [hcl] at r1
     simp only [storeCells, Sem.run_pure] at r1
     cases r1
     refine ⟨[], w, _, ?_, by rw [List.append_nil]; exact r2, .int _ _⟩
     rw [hpre _ _ rfl]
     simp only [hcl, storeCells, Sem.run_pure, Result.andThen_ok]
     rfl
    ·refine ⟨[], w', _, ?_, by rw [List.append_nil]; exact r2, .int _ _⟩
     rw [hpre _ _ rfl]
     simp only [k3 hc0, r1, Result.andThen_ok]
     rfl
 | _ => cases he
theorem len_sound (H : HR M w0 h w) {t : TypeId} {x ux v : Value} {ty : TypeId} {ts : Array TypeId} {args : Array Value} (h0 : ts[0]? = some t) (a0 : args[0]? = some ux) (hvx : VR M x ux) (he : evLen P h t x = some (v, h')) :
  ∃ N w' v', (Builtin.len_ ts ty args).run P w = .ok v' w' ∧ HR (M ++ N) w0 h' w' ∧ VR (M ++ N) v v' := by
 obtain ⟨d, e1, he⟩ := ob_inv he
 obtain ⟨n, e2, he⟩ := ob_inv he
 cases he
 have key : (Builtin.len_ ts ty args).run P w = .ok (goInt n) w := by
  cases x with
  | string s =>
   obtain ⟨g1, e2⟩ := gd_inv e2
   cases e2
   rw [str_inv hvx] at a0
   rw [isStrD_inv g1] at e1
   unfold Builtin.len_
   simp only [h0, a0, Sem.run_bind, run_underlying e1, Result.andThen_ok, Sem.run_pure, str_size]
  | slice b k c =>
   obtain ⟨e, q1, e2⟩ := ob_inv e2
   cases e2
   obtain ⟨b', c', rfl⟩ := slice_any_inv hvx
   rw [sliceE_inv q1] at e1
   unfold Builtin.len_
   simp only [h0, a0, Sem.run_bind, run_underlying e1, Result.andThen_ok, Sem.run_pure]
  | map r =>
   cases r with
   | none =>
    obtain ⟨ke, q1, e2⟩ := ob_inv e2
    cases e2
    cases hvx
    rw [mapE_inv q1] at e1
    unfold Builtin.len_
    simp only [h0, a0, Sem.run_bind, run_underlying e1, Result.andThen_ok, Sem.run_pure]
    rfl
   | some r =>
    obtain ⟨ke, q1, e2⟩ := ob_inv e2
    obtain ⟨es, q2, e2⟩ := ob_inv e2
    cases e2
    obtain ⟨l, hl, rfl⟩ := map_inv hvx
    obtain ⟨_, ce, q3, q4⟩ := map_at H hl (mapB_inv q2)
    rw [mapE_inv q1] at e1
    unfold Builtin.len_
    simp only [h0, a0, Sem.run_bind, run_underlying e1, Result.andThen_ok, run_getObj_map q3, Sem.run_pure]
    rw [q4.1]; rfl
  | _ => exact len_other h0 a0 e1 e2
 exact ⟨[], w, _, key, by rw [List.append_nil]; exact H, .int _ _⟩
theorem cap_sound (H : HR M w0 h w) {t : TypeId} {x ux v : Value} {ty : TypeId} {ts : Array TypeId} {args : Array Value} (h0 : ts[0]? = some t) (a0 : args[0]? = some ux) (hvx : VR M x ux) (he : evCap P h t x = some (v, h')) :
  ∃ N w' v', (Builtin.cap_ ts ty args).run P w = .ok v' w' ∧ HR (M ++ N) w0 h' w' ∧ VR (M ++ N) v v' := by
 obtain ⟨d, e1, he⟩ := ob_inv he
 obtain ⟨e, e2, he⟩ := ob_inv he
 obtain ⟨c, e3, he⟩ := ob_inv he
 cases he
 rw [sliceE_inv e2] at e1
 cases x with
 | slice b k c2 =>
  obtain ⟨g1, e3⟩ := gd_inv e3
  cases e3
  have hodd := beq_inv g1
  have : ∃ b', ux = .slice b' k (c2 / 2) := by
   cases hvx with
   | snil n c => exact ⟨none, by congr 1; omega⟩
   | sx b o n c x l h => exact ⟨_, by rw [show (2 * c + 1) / 2 = c by omega]⟩
   | sg b o n c c' x l h => omega
  obtain ⟨b', rfl⟩ := this
  refine ⟨[], w, _, ?_, by rw [List.append_nil]; exact H, .int _ _⟩
  unfold Builtin.cap_
  simp only [h0, a0, Sem.run_bind, run_underlying e1, Result.andThen_ok, Sem.run_pure]
  rfl
 | _ => cases e3
theorem clear_sound (H : HR M w0 h w) {t : TypeId} {x ux v : Value} {ty : TypeId} {ts : Array TypeId} {args : Array Value} (h0 : ts[0]? = some t) (a0 : args[0]? = some ux) (hvx : VR M x ux) (he : evClear P h t x = some (v, h')) :
  ∃ N w' v', (Builtin.clear_ ts ty args).run P w = .ok v' w' ∧ HR (M ++ N) w0 h' w' ∧ VR (M ++ N) v v' := by
 obtain ⟨d, e1, he⟩ := ob_inv he
 obtain ⟨e, e2, he⟩ := ob_inv he
 obtain ⟨sz, e3, he⟩ := ob_inv he
 rw [sliceE_inv e2] at e1
 cases x with
 | slice base n c2 =>
  have fin0 : (∀ (b : Option Addr) (k c : Nat), ux = .slice b k c → b = none ∨ k = 0) → (∃ b k c, ux = .slice b k c) → ∃ N w' v', (Builtin.clear_ ts ty args).run P w = .ok v' w' ∧ HR (M ++ N) w0 h w' ∧ VR (M ++ N) undef v' := by
   rintro hq ⟨b, k, c, rfl⟩
   refine ⟨[], w, .tuple #[], ?_, by rw [List.append_nil]; exact H, VR.undef _⟩
   unfold Builtin.clear_
   simp only [h0, a0, Sem.run_bind, run_underlying e1, Result.andThen_ok]
   rcases hq b k c rfl with rfl | rfl
   ·rfl
   ·cases b <;> rfl
  cases base with
  | none =>
   cases he
   obtain ⟨q, _, rfl⟩ := slice_nil_inv hvx
   exact fin0 (fun b k c e => by cases e; exact .inl rfl) ⟨_, _, _, rfl⟩
  | some ad =>
   obtain ⟨b, o, sp⟩ := ad
   cases sp with
   | some _ => cases he
   | none =>
    obtain ⟨l, x', c', hl, rfl, k1, k2, k3, k4, k5⟩ := slice_inv hvx
    have he : cnd (Nat.beq n 0) (some (undef, h)) (ob (zeroT P e) fun z => gd (Nat.beq (cellsL z).length sz) (gd (Nat.ble 1 sz) (ob (h.wr b o (zeroRow (cellsL (enc z)) n)) fun h' => some (undef, h')))) = some (v, h') := he
    cases hn : n with
    | zero =>
     rw [hn] at he
     cases he
     exact fin0 (fun b k c e => by cases e; exact .inr hn) ⟨_, _, _, rfl⟩
    | succ m =>
     rw [show Nat.beq n 0 = false by rw [hn]; rfl] at he
     simp only [cnd_false] at he
     obtain ⟨z, e4, he⟩ := ob_inv he
     obtain ⟨g1, he⟩ := gd_inv he
     obtain ⟨g2, he⟩ := gd_inv he
     obtain ⟨h2, e5, he⟩ := ob_inv he
     cases he
     obtain ⟨r1, r2⟩ := run_zero e4 w
     have hrow := zeroRow_LR (M := M) r2 n sz (beq_inv g1) (ble_inv g2)
     have hzs : z.cells.size = sz := by rw [← Array.length_toList, cells_toList]; exact beq_inv g1
     have hrow' : LR M (zeroRow (cellsL (enc z)) n) (Builtin.zeroCells z.cells n).toList := by
      unfold Builtin.zeroCells
      rw [hzs]
      rw [hzs] at hrow
      exact hrow
     obtain ⟨w', s1, s2⟩ := H.wr P hl e5 hrow'
     have hc0 : c' ≠ 0 := by omega
     refine ⟨[], w', .tuple #[], ?_, by rw [List.append_nil]; exact s2, VR.undef _⟩
     unfold Builtin.clear_
     rw [k3 hc0, hn] at a0
     rw [hn] at s1
     simp only [h0, a0, Sem.run_bind, run_underlying e1, Result.andThen_ok]
     simp only [Sem.run_bind, r1, Result.andThen_ok, s1, Sem.run_pure]
 | _ => cases he
theorem delete_sound (H : HR M w0 h w) {t : TypeId} {m k um uk v : Value} {ty : TypeId} {ts : Array TypeId} {args : Array Value} (h0 : ts[0]? = some t) (a0 : args[0]? = some um) (a1 : args[1]? = some uk) (hvm : VR M m um) (hvk : VR M k uk) (he : evDelete P h t m k = some (v, h')) :
  ∃ N w' v', (Builtin.delete_ ts ty args).run P w = .ok v' w' ∧ HR (M ++ N) w0 h' w' ∧ VR (M ++ N) v v' := by
 obtain ⟨r, e1, he⟩ := ob_inv he
 obtain ⟨q, e2, he⟩ := ob_inv he
 obtain ⟨d, e3, he⟩ := ob_inv he
 obtain ⟨ke, e4, he⟩ := ob_inv he
 obtain ⟨kd, e5, he⟩ := ob_inv he
 obtain ⟨g1, he⟩ := gd_inv he
 obtain ⟨es, e6, he⟩ := ob_inv he
 obtain ⟨res, e7, he⟩ := ob_inv he
 rw [asMapV_inv e1] at hvm
 rw [asIntV_inv e2] at hvk
 rw [mapE_inv e4] at e3
 obtain ⟨kd', hkd⟩ := isIntD_inv g1
 rw [hkd] at e5
 obtain ⟨l, hl, rfl⟩ := map_inv hvm
 have hge := mapB_inv e6
 obtain ⟨hB, ce, hce, her⟩ := map_at H hl hge
 have hlt : l.blk < w.heap.size := (Array.getElem?_eq_some_iff.1 hce).1
 obtain ⟨r', q1, q2⟩ := find_sound (kd := kd') her e7
 rw [int_inv hvk] at a1
 cases res with
 | none =>
  cases r' with
  | some _ => exact q2.elim
  | none =>
   cases he
   have H2 : HR M w0 (h.set r (.map es.1 es.2)) { w with heap := w.heap.setIfInBounds l.blk (.map ce es.2) } := H.put hl (by rw [hge]; rfl) ⟨hB, ce, heap_put_self w _ _ hlt, her⟩
   refine ⟨[], { w with heap := w.heap.setIfInBounds l.blk (.map ce es.2) }, undef, ?_, ?_, VR.undef _⟩
   ·unfold Builtin.delete_
    simp only [h0, a0, a1, Sem.run_bind, run_underlying e3, Result.andThen_ok, run_getObj_map hce, run_checkKey e5, run_findKey e5 q1, run_setObj_map hce, Sem.run_pure]
    rfl
   ·rw [List.append_nil]
    refine H2.congr rfl fun b => ?_
    rw [Heap.get_set]
    by_cases e : b = r
    ·rw [if_pos e, e, hge]
    ·rw [if_neg e]
 | some p =>
  cases r' with
  | none => exact q2.elim
  | some p' =>
   obtain ⟨j, v1⟩ := p
   obtain ⟨j', v1'⟩ := p'
   obtain ⟨rfl, _, qq, hq, ee, he1, he2⟩ := q2
   cases he
   refine ⟨[], { w with heap := w.heap.setIfInBounds l.blk (.map (ce.eraseIdxIfInBounds j') es.2) }, undef, ?_, ?_, VR.undef _⟩
   ·unfold Builtin.delete_
    simp only [h0, a0, a1, Sem.run_bind, run_underlying e3, Result.andThen_ok, run_getObj_map hce, run_checkKey e5, run_findKey e5 q1, run_setObj_map hce, Sem.run_pure]
    rfl
   ·rw [List.append_nil]
    refine H.put hl (by rw [hge]; rfl) ⟨hB, _, heap_put_self w _ _ hlt, ?_⟩
    have hj : j' < ce.size := by
     have := (List.getElem?_eq_some_iff.1 he1).1
     rw [← Array.length_toList, ← her.1]; omega
    have hto : (ce.eraseIdxIfInBounds j').toList = ce.toList.eraseIdx j' := by
     unfold Array.eraseIdxIfInBounds
     rw [dif_pos hj, Array.toList_eraseIdx]
    rw [hto]
    refine ⟨by rw [List.length_eraseIdx, List.length_eraseIdx, her.1], fun i x y hx hy => ?_⟩
    rw [List.getElem?_eraseIdx] at hx hy
    split at hx
    ·rename_i hh; rw [if_pos hh] at hy; exact her.2 _ _ _ hx hy
    ·rename_i hh; rw [if_neg hh] at hy; exact her.2 _ _ _ hx hy
end
end Go.Proofs.YtddgcakiceodgaaGreat.EV
