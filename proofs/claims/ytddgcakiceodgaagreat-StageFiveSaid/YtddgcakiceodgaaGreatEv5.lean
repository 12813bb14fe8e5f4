/-
  EV, part 5: every operation that is no call of a function; the built-in ones.
-/
import Derived.Test.YtddgcakiceodgaaGreatEv4
namespace Go.Proofs.YtddgcakiceodgaaGreat.EV
set_option linter.unusedVariables false
set_option linter.unusedSimpArgs false
open Go Go.RowKit

section
variable {P : Program} {M : List Loc} {w0 : Base} {w : World} {h h' : Heap} {nn : Nat} {tm : Fr} {a : Act} {v : Value}

theorem Res.val {s : Sem Value} {e : Sem Next} (hs : ∃ N w' v', s.run P w = .ok v' w' ∧ HR (M ++ N) w0 h' w' ∧ VR (M ++ N) v v') (he : e = (do pure (Next.value (← s)))) : Res P M w0 w e v h' := by
  obtain ⟨N, w', v', h1, h2, h3⟩ := hs
  refine ⟨N, w', v', .inl ?_, h2, h3⟩
  rw [he]
  simp only [Sem.run_bind, h1, Result.andThen_ok, Sem.run_pure]
theorem Res.same {s : Sem Value} {e : Sem Next} (H : HR M w0 h w) (hs : ∃ v', s.run P w = .ok v' w ∧ VR M v v') (he : e = (do pure (Next.value (← s)))) : Res P M w0 w e v h := by
  obtain ⟨v', h1, h3⟩ := hs
  exact Res.val ⟨[], w, v', h1, by rw [List.append_nil]; exact H, by rw [List.append_nil]; exact h3⟩ he
theorem Res.unit {s : Sem Unit} {e : Sem Next} (hs : ∃ w', s.run P w = .ok () w' ∧ HR M w0 h' w') (he : e = (do s; pure Next.skip)) : Res P M w0 w e undef h' := by
  obtain ⟨w', h1, h2⟩ := hs
  refine ⟨[], w', undef, .inr ⟨?_, rfl⟩, by rw [List.append_nil]; exact h2, VR.undef _⟩
  rw [he]
  simp only [Sem.run_bind, h1, Result.andThen_ok, Sem.run_pure]

theorem asPtr_inv {u : Value} {p : Nat × Nat} (h : asPtr u = some p) : u = .pointer (some ⟨p.1, p.2, none⟩) := by
  unfold asPtr at h
  split at h
  · cases h; rfl
  · cases h
theorem asIntV_inv {u : Value} {p : IntKind × Int} (h : asIntV u = some p) : u = .int p.1 p.2 := by
  unfold asIntV at h
  split at h
  · cases h; rfl
  · cases h
theorem asBoolV_inv {u : Value} {p : Bool} (h : asBoolV u = some p) : u = .bool p := by
  unfold asBoolV at h
  split at h
  · cases h; rfl
  · cases h
theorem asAggV_inv {u : Value} {p : List Value} (h : asAggV u = some p) : u = .agg ⟨p⟩ := by
  unfold asAggV at h
  split at h
  · cases h; rfl
  · cases h
theorem asTupV_inv {u : Value} {p : List Value} (h : asTupV u = some p) : u = .tuple ⟨p⟩ := by
  unfold asTupV at h
  split at h
  · cases h; rfl
  · cases h
theorem asMapV_inv {u : Value} {p : Nat} (h : asMapV u = some p) : u = .map (some p) := by
  unfold asMapV at h
  split at h
  · cases h; rfl
  · cases h
theorem sliceE_inv {u : TypeDesc} {p : TypeId} (h : sliceE u = some p) : u = .slice p := by
  unfold sliceE at h
  split at h
  · cases h; rfl
  · cases h
theorem structE_inv {u : TypeDesc} {p : List Field} (h : structE u = some p) : u = .struct ⟨p⟩ := by
  unfold structE at h
  split at h
  · cases h; rfl
  · cases h
theorem mapE_inv {u : TypeDesc} {p : TypeId × TypeId} (h : mapE u = some p) : u = .map p.1 p.2 := by
  unfold mapE at h
  split at h
  · cases h; rfl
  · cases h
theorem arrayE_inv {u : TypeDesc} {p : Nat × TypeId} (h : arrayE u = some p) : u = .array p.1 p.2 := by
  unfold arrayE at h
  split at h
  · cases h; rfl
  · cases h
theorem ptrE_inv {u : TypeDesc} {p : TypeId} (h : ptrE u = some p) : u = .pointer p := by
  unfold ptrE at h
  split at h
  · cases h; rfl
  · cases h
theorem isIntD_inv {u : TypeDesc} (h : isIntD u = true) : ∃ k, u = .int k := by
  unfold isIntD at h
  split at h
  · exact ⟨_, rfl⟩
  · cases h
theorem isU8D_inv {u : TypeDesc} (h : isU8D u = true) : u = .int .u8 := by
  unfold isU8D at h
  split at h
  · rfl
  · cases h
theorem isStrD_inv {u : TypeDesc} (h : isStrD u = true) : u = .string := by
  unfold isStrD at h
  split at h
  · rfl
  · cases h
theorem mapB_inv {u : Blk} {p : List MapEntry × Nat} (h : mapB u = some p) : u = .map p.1 p.2 := by
  unfold mapB at h
  split at h
  · cases h; rfl
  · cases h
theorem cellsEs_inv {u : Blk} {es : Nat} (h : cellsEs u = some es) : ∃ c, u = .cells c es := by
  unfold cellsEs at h
  split at h
  · cases h; exact ⟨_, rfl⟩
  · cases h
theorem inB_inv {i : Int} {n : Nat} (h : inB i n = true) : 0 ≤ i ∧ i < n := by
  unfold inB at h
  simp only [Bool.and_eq_true, decide_eq_true_eq] at h
  exact h
theorem beq_inv {a b : Nat} (h : Nat.beq a b = true) : a = b := Nat.eq_of_beq_eq_true h
theorem ble_inv {a b : Nat} (h : Nat.ble a b = true) : a ≤ b := Nat.le_of_ble_eq_true h

theorem op_freeze (H : HR M w0 h w) {s e : TypeId} {b o n c2 : Nat} {u : Value} (hu : VR M (.slice (some ⟨b, o, none⟩) n c2) u) (hs : P.underlying s = some (.slice e)) (he : P.underlying e = some (.int .u8)) (hal : aliveB h (some ⟨b, o, none⟩) = true) :
    ∃ N w' v', (convert s s u).run P w = .ok v' w' ∧ HR (M ++ N) w0 h w' ∧ VR (M ++ N) (.slice (some ⟨b, o, none⟩) n c2) v' := by
  obtain ⟨l, x, c', hl, rfl, _⟩ := slice_inv hu
  have hal' : (match h.get b with | .cells _ _ => true | _ => false) = true := hal
  clear hal
  split at hal'
  case h_2 => cases hal'
  rename_i c es hg
  have hb := H.blk b l hl
  rw [hg] at hb
  obtain ⟨h1, h2, cc, e', fr, h3, h4, h5, h6, h7⟩ := hb
  have hsh : w.shape? l.blk = some (e', cc.size) := by simp [World.shape?, h3]
  have hnew : (w.freeze ⟨l.blk, cc.size, none⟩ 1).heap[l.blk]? = some (.cells cc e' (if fr.1 == fr.2 then (cc.size, cc.size + 1) else (min fr.1 cc.size, max fr.2 (cc.size + 1)))) := by
    unfold World.freeze
    simp only [Nat.one_ne_zero, if_false, Array.getElem?_modify, if_true, h3, Option.map_some]
  have hother : ∀ k, k ≠ l.blk → (w.freeze ⟨l.blk, cc.size, none⟩ 1).heap[k]? = w.heap[k]? := fun k hk => by
    unfold World.freeze
    simp only [Nat.one_ne_zero, if_false, Array.getElem?_modify]
    rw [if_neg (fun q => hk q.symm)]
  refine ⟨[], w.freeze ⟨l.blk, cc.size, none⟩ 1, .slice (some ⟨l.blk, x, none⟩) n c', ?_, ?_, ?_⟩
  · simp only [convert, Sem.run_bind, run_underlying hs, Result.andThen_ok, beq_self_eq_true, run_underlying he, markStringish, run_shape, hsh, run_freeze, Sem.run_pure]
  · rw [List.append_nil]
    have H2 := H.turn (w' := w.freeze ⟨l.blk, cc.size, none⟩ 1) b (.cells c es) ?_ ?_ (H.lt_next (by rw [hg]; simp)) ?_ (fun _ => by rw [hg]; rfl)
    · refine H2.congr rfl fun b' => ?_
      rw [Heap.get_set]
      by_cases e2 : b' = b
      · rw [if_pos e2, e2, hg]
      · rw [if_neg e2]
    · refine H.bel.trans ⟨by unfold World.freeze; rfl, by unfold World.freeze; rfl, by unfold World.freeze; rfl, by unfold World.freeze; simp, fun k hk => hother k (fun e => h2 (e ▸ hk))⟩
    · intro b' l' hne h1' hd
      refine hother _ fun e2 => ?_
      cases ho' : own (h.get b') with
      | true => exact H.inj b' b l' l h1' hl ho' (by rw [hg]; rfl) hne e2
      | false =>
        have hb' := H.blk b' l' h1'
        cases hx : h.get b' with
        | dead => exact hd hx
        | ro c' => rw [hx] at hb'; exact Base.ro_ne hb'.1 h2 e2
        | _ => rw [hx] at ho'; cases ho'
    · intro l' hl'
      rw [hl] at hl'
      cases hl'
      refine ⟨h1, h2, cc, e', _, hnew, h4, ?_, h6, h7⟩
      by_cases c0 : fr.1 = fr.2
      · rw [if_pos (by simpa using c0)]; exact .inr (by simp; omega)
      · rw [if_neg (by simpa using c0)]
        rcases h5 with h5 | h5
        · exact absurd h5 c0
        · exact .inr (by simp; omega)
  · rw [List.append_nil]; exact hu

theorem evOp_sound (H : HR M w0 h w) (ha : FR M nn tm a.tmps) (o : Oper) (he : evOp P tm h o.op = some (v, h')) : Res P M w0 w (execOp a.eval o) v h' := by
  have hx : execOp a.eval o = execOp a.eval o := rfl
  conv at hx => rhs; unfold execOp
  cases hop : o.op with
  | move x =>
    rw [hop] at he hx
    obtain ⟨u, h1, h2⟩ := ob_inv he
    cases h2
    exact ⟨[], w, _, .inl (by rw [hx]; rfl), by rw [List.append_nil]; exact H, by rw [List.append_nil]; exact opnd_sound ha h1⟩
  | assign x =>
    rw [hop] at he hx
    obtain ⟨u, h1, h2⟩ := ob_inv he
    cases h2
    exact ⟨[], w, _, .inl (by rw [hx]; rfl), by rw [List.append_nil]; exact H, by rw [List.append_nil]; exact opnd_sound ha h1⟩
  | pick c x y =>
    rw [hop] at he hx
    obtain ⟨u, h1, he⟩ := ob_inv he
    obtain ⟨p, h2, he⟩ := ob_inv he
    obtain ⟨v1, h3, he⟩ := ob_inv he
    obtain ⟨v2, h4, he⟩ := ob_inv he
    cases he
    have h5 := opnd_sound ha h1
    rw [asBoolV_inv h2] at h5
    refine ⟨[], w, if p then a.eval x else a.eval y, .inl ?_, by rw [List.append_nil]; exact H, ?_⟩
    · rw [hx]
      simp only [bool_inv h5, asBool, Sem.run_bind, Sem.run_pure, Result.andThen_ok]
    · rw [List.append_nil]
      cases p with
      | true => exact opnd_sound ha h3
      | false => exact opnd_sound ha h4
  | alloc e =>
    rw [hop] at he hx
    obtain ⟨z, h1, he⟩ := ob_inv he
    cases he
    exact Res.val (op_alloc H h1) hx
  | box e x =>
    rw [hop] at he hx
    obtain ⟨u, h1, he⟩ := ob_inv he
    cases he
    exact Res.val (op_box H e (opnd_sound ha h1)) hx
  | build t parts =>
    rw [hop] at he hx
    obtain ⟨z, h1, he⟩ := ob_inv he
    obtain ⟨ps, h2, he⟩ := ob_inv he
    obtain ⟨d, h3, he⟩ := ob_inv he
    cases d with
    | struct fs =>
      obtain ⟨pl, h4, he⟩ := ob_inv he
      obtain ⟨c, h5, he⟩ := ob_inv he
      cases he
      exact Res.same H (op_build_struct H ha h1 h2 h3 h4 h5) hx
    | array m e =>
      obtain ⟨n, h4, he⟩ := ob_inv he
      obtain ⟨c, h5, he⟩ := ob_inv he
      cases he
      exact Res.same H (op_build_array H ha h1 h2 h3 h4 h5) hx
    | _ => cases he
  | buildSlice t len parts =>
    rw [hop] at he hx
    obtain ⟨d, h1, he⟩ := ob_inv he
    obtain ⟨e, h2, he⟩ := ob_inv he
    obtain ⟨ps, h3, he⟩ := ob_inv he
    obtain ⟨n, h4, he⟩ := ob_inv he
    obtain ⟨z, h5, he⟩ := ob_inv he
    obtain ⟨g1, he⟩ := gd_inv he
    obtain ⟨g2, he⟩ := gd_inv he
    obtain ⟨g3, he⟩ := gd_inv he
    obtain ⟨c, h6, he⟩ := ob_inv he
    cases he
    rw [sliceE_inv h2] at h1
    exact Res.val (op_buildSlice H ha h1 h3 h4 h5 (ble_inv g1) (beq_inv g2) (ble_inv g3) h6) hx
  | load t x =>
    rw [hop] at he hx
    obtain ⟨u, h1, he⟩ := ob_inv he
    obtain ⟨p, h2, he⟩ := ob_inv he
    obtain ⟨v1, h3, he⟩ := ob_inv he
    cases he
    have h4 := opnd_sound ha h1
    rw [asPtr_inv h2] at h4
    obtain ⟨ag, h5, h6⟩ := ob_inv h3
    cases ag with
    | true =>
      simp only [cnd_true] at h6
      obtain ⟨n, h7, h6⟩ := ob_inv h6
      obtain ⟨c, h8, h6⟩ := ob_inv h6
      cases h6
      obtain ⟨c', h9, h10⟩ := op_load_agg H h4 h5 h7 h8
      exact Res.same H ⟨_, h9, h10⟩ hx
    | false =>
      simp only [cnd_false] at h6
      exact Res.same H (op_load_one H h4 h5 h6) hx
  | store t x y =>
    rw [hop] at he hx
    obtain ⟨u, h1, he⟩ := ob_inv he
    obtain ⟨p, h2, he⟩ := ob_inv he
    obtain ⟨v1, h3, he⟩ := ob_inv he
    obtain ⟨n, h4, he⟩ := ob_inv he
    obtain ⟨g1, he⟩ := gd_inv he
    obtain ⟨h2', h5, he⟩ := ob_inv he
    cases he
    have h6 := opnd_sound ha h1
    rw [asPtr_inv h2] at h6
    exact Res.unit (op_store H h6 (opnd_sound ha h3) h4 (beq_inv g1) h5) hx
  | nilCheck x =>
    rw [hop] at he hx
    obtain ⟨u, h1, he⟩ := ob_inv he
    obtain ⟨g1, he⟩ := gd_inv he
    cases he
    have h2 := opnd_sound ha h1
    refine ⟨[], w, a.eval x, .inl ?_, by rw [List.append_nil]; exact H, by rw [List.append_nil]; exact h2⟩
    rw [hx]
    dsimp only
    generalize a.eval x = y at h2 ⊢
    cases h2 <;> first | (cases g1; done) | rfl | (simp [notNil] at g1; done)
  | binOp op t x y yt =>
    rw [hop] at he hx
    obtain ⟨u1, h1, he⟩ := ob_inv he
    obtain ⟨u2, h2, he⟩ := ob_inv he
    obtain ⟨v1, h3, he⟩ := ob_inv he
    cases he
    exact Res.same H (op_bin (opnd_sound ha h1) (opnd_sound ha h2) h3) hx
  | unOp op t x =>
    rw [hop] at he hx
    obtain ⟨u1, h1, he⟩ := ob_inv he
    obtain ⟨g1, he⟩ := gd_inv he
    obtain ⟨v1, h2, he⟩ := ob_inv he
    obtain ⟨g2, he⟩ := gd_inv he
    cases he
    have h3 := (opnd_sound ha h1).flat1_eq g1
    simp only [h3] at hx
    rcases orE_inv h2 with h2 | ⟨_, h2⟩
    · refine Res.same H ⟨_, ?_, VR.of_flat1 M g2⟩ hx
      rw [fastUn_eq h2]; rfl
    · exact Res.same H (op_pure h2 g2) hx
  | convert s d x =>
    rw [hop] at he hx
    obtain ⟨u1, h1, he⟩ := ob_inv he
    have h2 := opnd_sound ha h1
    cases u1 with
    | int k n =>
      obtain ⟨v1, h3, he⟩ := ob_inv he
      obtain ⟨g1, he⟩ := gd_inv he
      cases he
      simp only [int_inv h2] at hx
      rcases orE_inv h3 with h3 | ⟨_, h3⟩
      · refine Res.same H ⟨_, ?_, VR.of_flat1 M g1⟩ hx
        obtain ⟨sd, q1, h3⟩ := ob_inv h3
        obtain ⟨dd, q2, h3⟩ := ob_inv h3
        cases dd <;> first | (cases h3; done) | skip
        simp only [Option.some.injEq] at h3
        subst h3
        simp only [convert, Sem.run_bind, run_underlying q1, run_underlying q2, Result.andThen_ok, Conv.intToInt, Sem.run_pure, wrapF_eq]
      · exact Res.same H (op_pure h3 g1) hx
    | string str =>
      obtain ⟨sd, h3, he⟩ := ob_inv he
      obtain ⟨dd, h4, he⟩ := ob_inv he
      obtain ⟨g1, he⟩ := gd_inv he
      rw [isStrD_inv g1] at h3
      cases hd : isStrD dd with
      | true =>
        rw [hd] at he
        simp only [cnd_true] at he
        cases he
        rw [isStrD_inv hd] at h4
        refine Res.same H ⟨.string str, ?_, .str _⟩ hx
        rw [str_inv h2]
        simp only [convert, Sem.run_bind, run_underlying h3, run_underlying h4, Result.andThen_ok, Sem.run_pure]
      | false =>
        rw [hd] at he
        simp only [cnd_false] at he
        obtain ⟨e, h5, he⟩ := ob_inv he
        obtain ⟨ed, h6, he⟩ := ob_inv he
        obtain ⟨g2, he⟩ := gd_inv he
        cases he
        rw [sliceE_inv h5] at h4
        rw [isU8D_inv g2] at h6
        exact Res.val (op_string_bytes H h2 h3 h4 h6) hx
    | slice ad n c2 =>
      obtain ⟨sd, h3, he⟩ := ob_inv he
      obtain ⟨e, h4, he⟩ := ob_inv he
      obtain ⟨dd, h5, he⟩ := ob_inv he
      rw [sliceE_inv h4] at h3
      cases hd : isStrD dd with
      | true =>
        rw [hd] at he
        simp only [cnd_true] at he
        obtain ⟨ed, h6, he⟩ := ob_inv he
        obtain ⟨g2, he⟩ := gd_inv he
        obtain ⟨v1, h7, he⟩ := ob_inv he
        cases he
        rw [isStrD_inv hd] at h5
        rw [isU8D_inv g2] at h6
        unfold strOfSlice at h7
        split at h7
        · cases h7
          exact Res.same H (op_nil_string h2 h3 h5 h6) hx
        · obtain ⟨c, h8, h7⟩ := ob_inv h7
          obtain ⟨l, h9, h7⟩ := ob_inv h7
          cases h7
          exact Res.same H (op_bytes_string H h2 h3 h5 h6 h8 h9) hx
        · cases h7
      | false =>
        rw [hd] at he
        simp only [cnd_false] at he
        obtain ⟨e', h6, he⟩ := ob_inv he
        obtain ⟨ed, h7, he⟩ := ob_inv he
        obtain ⟨g2, he⟩ := gd_inv he
        cases he
        simp only [Bool.and_eq_true] at g2
        obtain ⟨g3, g4, g5⟩ := g2
        have := beq_inv g4
        subst this
        rw [h3] at h5
        cases h5
        cases h6
        rw [isU8D_inv g3] at h7
        cases ad with
        | none => cases g5
        | some ad =>
          obtain ⟨b, o', sp⟩ := ad
          cases sp with
          | some _ => cases g5
          | none => exact Res.val (op_freeze H h2 h3 h7 g5) hx
    | _ => cases he
  | makeFunc fn x c =>
    rw [hop] at he hx
    cases fn with
    | func f =>
      obtain ⟨vx, h1, he⟩ := ob_inv he
      obtain ⟨vc, h2, he⟩ := ob_inv he
      cases he
      exact Res.same H (op_makeFunc ha h1 h2) hx
    | _ => cases he
  | makeMap t r =>
    rw [hop] at he hx
    cases r with
    | none =>
      cases he
      exact Res.val (op_makeMap H t) hx
    | some _ => cases he
  | makeSlice t l c =>
    rw [hop] at he hx
    obtain ⟨d, h1, he⟩ := ob_inv he
    obtain ⟨e, h2, he⟩ := ob_inv he
    obtain ⟨ul, h3, he⟩ := ob_inv he
    obtain ⟨l', h4, he⟩ := ob_inv he
    obtain ⟨uc, h5, he⟩ := ob_inv he
    obtain ⟨c', h6, he⟩ := ob_inv he
    obtain ⟨i, h7, he⟩ := ob_inv he
    obtain ⟨z, h8, he⟩ := ob_inv he
    obtain ⟨g1, he⟩ := gd_inv he
    obtain ⟨g2, he⟩ := gd_inv he
    obtain ⟨g3, he⟩ := gd_inv he
    obtain ⟨g4, he⟩ := gd_inv he
    obtain ⟨g5, he⟩ := gd_inv he
    obtain ⟨g6, he⟩ := gd_inv he
    cases he
    rw [sliceE_inv h2] at h1
    have k1 := opnd_sound ha h3
    have k2 := opnd_sound ha h5
    rw [asIntV_inv h4] at k1
    rw [asIntV_inv h6] at k2
    exact Res.val (op_makeSlice H k1 k2 h1 h7 h8 (of_decide_eq_true g1) (of_decide_eq_true g2) (ble_inv g3) (ble_inv g4) (beq_inv g5) (ble_inv g6)) hx
  | slice t x lo hi mx =>
    rw [hop] at he hx
    obtain ⟨u, h1, he⟩ := ob_inv he
    obtain ⟨lo1, h2, he⟩ := ob_inv he
    obtain ⟨hi1, h3, he⟩ := ob_inv he
    obtain ⟨mx1, h4, he⟩ := ob_inv he
    obtain ⟨d, h5, he⟩ := ob_inv he
    have k1 := opnd_sound ha h1
    have k2 := optOpnd_sound ha h2
    have k3 := optOpnd_sound ha h3
    have k4 := optOpnd_sound ha h4
    cases u with
    | string s =>
      obtain ⟨g1, he⟩ := gd_inv he
      obtain ⟨q, h6, he⟩ := ob_inv he
      cases he
      simp only [Bool.and_eq_true] at g1
      rw [isStrD_inv g1.1] at h5
      cases mx1 with
      | some _ => simp at g1
      | none =>
        cases hm : mx.map a.eval with
        | some _ => rw [hm] at k4; exact k4.elim
        | none =>
          simp only [hm] at hx
          exact Res.same H (op_slice_str k1 h5 k2 k3 h6) hx
    | slice ad n c2 =>
      obtain ⟨e, h6, he⟩ := ob_inv he
      obtain ⟨q, h7, he⟩ := ob_inv he
      obtain ⟨sz, h8, he⟩ := ob_inv he
      rw [sliceE_inv h6] at h5
      obtain ⟨l, r, m, ex⟩ := q
      cases ad with
      | none =>
        cases he
        exact Res.same H (op_slice_nil k1 h5 h8 k2 k3 k4 h7) hx
      | some ad =>
        obtain ⟨b, o', sp⟩ := ad
        cases sp with
        | some _ => cases he
        | none =>
          obtain ⟨v', r1, r2, r3⟩ := op_slice (w := w) k1 h5 h8 k2 k3 k4 h7
          simp only [evCutSl] at he
          cases hc : (ex || Nat.beq (c2 % 2) 1) with
          | true =>
            rw [hc] at he
            simp only [cnd_true] at he
            cases he
            simp only [Bool.or_eq_true] at hc
            exact Res.same H ⟨v', r1, r2 (hc.imp id beq_inv)⟩ hx
          | false =>
            rw [hc] at he
            simp only [cnd_false] at he
            obtain ⟨es, h9, he⟩ := ob_inv he
            obtain ⟨g1, he⟩ := gd_inv he
            cases he
            simp only [Bool.or_eq_false_iff] at hc
            have hne : c2 % 2 ≠ 1 := fun q => by rw [q] at hc; cases hc.2
            obtain ⟨cc, h10⟩ := cellsEs_inv h9
            refine Res.same H ⟨v', r1, r3 ⟨hc.1, by omega⟩ fun ll hll => ?_⟩ hx
            have hb := H.blk b ll hll
            rw [h10] at hb
            rw [hb.1]; exact beq_inv g1
    | pointer ad =>
      cases ad with
      | none => cases he
      | some ad =>
        obtain ⟨b, o', sp⟩ := ad
        cases sp with
        | some _ => cases he
        | none =>
          cases d with
          | array n e =>
            obtain ⟨q, h7, he⟩ := ob_inv he
            obtain ⟨sz, h8, he⟩ := ob_inv he
            cases he
            obtain ⟨l, r, m, ex⟩ := q
            exact Res.same H (op_slice_arr k1 h5 h8 k2 k3 k4 h7) hx
          | pointer arr =>
            obtain ⟨d2, h6, he⟩ := ob_inv he
            obtain ⟨ne, h7, he⟩ := ob_inv he
            obtain ⟨q, h8, he⟩ := ob_inv he
            obtain ⟨sz, h9, he⟩ := ob_inv he
            cases he
            obtain ⟨l, r, m, ex⟩ := q
            rw [arrayE_inv h7] at h6
            exact Res.same H (op_slice_parr k1 h5 h6 h9 k2 k3 k4 h8) hx
          | _ => cases he
    | _ => cases he
  | fieldAddr t x f =>
    rw [hop] at he hx
    obtain ⟨u, h1, he⟩ := ob_inv he
    obtain ⟨p, h2, he⟩ := ob_inv he
    obtain ⟨d, h3, he⟩ := ob_inv he
    obtain ⟨fs, h4, he⟩ := ob_inv he
    obtain ⟨g, h5, he⟩ := ob_inv he
    obtain ⟨n, h6, he⟩ := ob_inv he
    obtain ⟨g1, he⟩ := gd_inv he
    cases he
    have k1 := opnd_sound ha h1
    rw [asPtr_inv h2] at k1
    rw [structE_inv h4] at h3
    exact Res.same H (op_fieldAddr k1 h3 h5 h6 (fun q => by rw [q] at g1; cases g1)) hx
  | field t x f =>
    rw [hop] at he hx
    obtain ⟨u, h1, he⟩ := ob_inv he
    obtain ⟨cs, h2, he⟩ := ob_inv he
    obtain ⟨d, h3, he⟩ := ob_inv he
    obtain ⟨fs, h4, he⟩ := ob_inv he
    obtain ⟨g, h5, he⟩ := ob_inv he
    obtain ⟨v1, h6, he⟩ := ob_inv he
    cases he
    have k1 := opnd_sound ha h1
    rw [asAggV_inv h2] at k1
    rw [structE_inv h4] at h3
    exact Res.same H (op_field k1 h3 h5 h6) hx
  | indexAddr t x ix =>
    rw [hop] at he hx
    obtain ⟨u, h1, he⟩ := ob_inv he
    obtain ⟨ui, h2, he⟩ := ob_inv he
    obtain ⟨i, h3, he⟩ := ob_inv he
    obtain ⟨d, h4, he⟩ := ob_inv he
    have k1 := opnd_sound ha h1
    have k2 := opnd_sound ha h2
    rw [asIntV_inv h3] at k2
    cases u with
    | pointer ad =>
      cases ad with
      | none => cases he
      | some ad =>
        obtain ⟨b, o', sp⟩ := ad
        cases sp with
        | some _ => cases he
        | none =>
          obtain ⟨ne, h5, he⟩ := ob_inv he
          obtain ⟨sz, h6, he⟩ := ob_inv he
          obtain ⟨g1, he⟩ := gd_inv he
          cases he
          rw [arrayE_inv h5] at h4
          obtain ⟨g2, g3⟩ := inB_inv g1
          exact Res.same H (op_indexAddr_arr k1 k2 h4 h6 g2 g3) hx
    | slice ad n c2 =>
      cases ad with
      | none => cases he
      | some ad =>
        obtain ⟨b, o', sp⟩ := ad
        cases sp with
        | some _ => cases he
        | none =>
          obtain ⟨e, h5, he⟩ := ob_inv he
          obtain ⟨sz, h6, he⟩ := ob_inv he
          obtain ⟨g1, he⟩ := gd_inv he
          cases he
          rw [sliceE_inv h5] at h4
          obtain ⟨g2, g3⟩ := inB_inv g1
          exact Res.same H (op_indexAddr_slice k1 k2 h4 h6 g2 g3) hx
    | _ => cases he
  | index t x ix =>
    rw [hop] at he hx
    obtain ⟨u, h1, he⟩ := ob_inv he
    obtain ⟨ui, h2, he⟩ := ob_inv he
    obtain ⟨i, h3, he⟩ := ob_inv he
    obtain ⟨d, h4, he⟩ := ob_inv he
    have k1 := opnd_sound ha h1
    have k2 := opnd_sound ha h2
    rw [asIntV_inv h3] at k2
    cases u with
    | agg cs =>
      obtain ⟨ne, h5, he⟩ := ob_inv he
      obtain ⟨sz, h6, he⟩ := ob_inv he
      obtain ⟨g1, he⟩ := gd_inv he
      obtain ⟨v1, h7, he⟩ := ob_inv he
      cases he
      rw [arrayE_inv h5] at h4
      obtain ⟨g2, g3⟩ := inB_inv g1
      exact Res.same H (op_index_arr k1 k2 h4 h6 g2 g3 h7) hx
    | string s =>
      obtain ⟨g1, he⟩ := gd_inv he
      obtain ⟨b, h5, he⟩ := ob_inv he
      cases he
      simp only [Bool.and_eq_true, decide_eq_true_eq] at g1
      rw [isStrD_inv g1.1] at h4
      exact Res.same H (op_index_str k1 k2 h4 g1.2 h5) hx
    | _ => cases he
  | lookup t m k ok =>
    rw [hop] at he hx
    obtain ⟨um, h1, he⟩ := ob_inv he
    obtain ⟨r, h2, he⟩ := ob_inv he
    obtain ⟨uk, h3, he⟩ := ob_inv he
    obtain ⟨k', h4, he⟩ := ob_inv he
    obtain ⟨d, h5, he⟩ := ob_inv he
    obtain ⟨ke, h6, he⟩ := ob_inv he
    obtain ⟨kd, h7, he⟩ := ob_inv he
    obtain ⟨g1, he⟩ := gd_inv he
    obtain ⟨es, h8, he⟩ := ob_inv he
    obtain ⟨z, h9, he⟩ := ob_inv he
    obtain ⟨res, h10, he⟩ := ob_inv he
    have k1 := opnd_sound ha h1
    have k2 := opnd_sound ha h3
    rw [asMapV_inv h2] at k1
    rw [asIntV_inv h4] at k2
    rw [mapE_inv h6] at h5
    obtain ⟨kd', hkd⟩ := isIntD_inv g1
    rw [hkd] at h7
    obtain ⟨v', r1, r2⟩ := op_lookup H ok k1 k2 h5 h7 (mapB_inv h8) h9 h10
    cases he
    cases res <;> exact Res.same H ⟨v', r1, r2⟩ hx
  | mapUpdate t m k x =>
    rw [hop] at he hx
    obtain ⟨um, h1, he⟩ := ob_inv he
    obtain ⟨r, h2, he⟩ := ob_inv he
    obtain ⟨uk, h3, he⟩ := ob_inv he
    obtain ⟨k', h4, he⟩ := ob_inv he
    obtain ⟨ux, h4b, he⟩ := ob_inv he
    obtain ⟨d, h5, he⟩ := ob_inv he
    obtain ⟨ke, h6, he⟩ := ob_inv he
    obtain ⟨kd, h7, he⟩ := ob_inv he
    obtain ⟨g1, he⟩ := gd_inv he
    obtain ⟨es, h8, he⟩ := ob_inv he
    obtain ⟨res, h10, he⟩ := ob_inv he
    have k1 := opnd_sound ha h1
    have k2 := opnd_sound ha h3
    rw [asMapV_inv h2] at k1
    rw [asIntV_inv h4] at k2
    rw [mapE_inv h6] at h5
    obtain ⟨kd', hkd⟩ := isIntD_inv g1
    rw [hkd] at h7
    obtain ⟨w', r1, r2⟩ := op_mapUpdate H k1 k2 (opnd_sound ha h4b) h5 h7 (mapB_inv h8) h10
    cases he
    cases res <;> exact Res.unit ⟨w', r1, r2⟩ hx
  | insert t m k x =>
    rw [hop] at he hx
    obtain ⟨um, h1, he⟩ := ob_inv he
    obtain ⟨r, h2, he⟩ := ob_inv he
    obtain ⟨uk, h3, he⟩ := ob_inv he
    obtain ⟨k', h4, he⟩ := ob_inv he
    obtain ⟨ux, h4b, he⟩ := ob_inv he
    obtain ⟨d, h5, he⟩ := ob_inv he
    obtain ⟨ke, h6, he⟩ := ob_inv he
    obtain ⟨kd, h7, he⟩ := ob_inv he
    obtain ⟨g1, he⟩ := gd_inv he
    obtain ⟨es, h8, he⟩ := ob_inv he
    obtain ⟨res, h10, he⟩ := ob_inv he
    have k1 := opnd_sound ha h1
    have k2 := opnd_sound ha h3
    rw [asMapV_inv h2] at k1
    rw [asIntV_inv h4] at k2
    rw [mapE_inv h6] at h5
    obtain ⟨kd', hkd⟩ := isIntD_inv g1
    rw [hkd] at h7
    obtain ⟨w', r1, r2⟩ := op_mapUpdate H k1 k2 (opnd_sound ha h4b) h5 h7 (mapB_inv h8) h10
    cases he
    cases res <;> exact Res.unit ⟨w', r1, r2⟩ hx
  | mapEntry t m k =>
    rw [hop] at he hx
    obtain ⟨um, h1, he⟩ := ob_inv he
    obtain ⟨r, h2, he⟩ := ob_inv he
    obtain ⟨uk, h3, he⟩ := ob_inv he
    obtain ⟨k', h4, he⟩ := ob_inv he
    obtain ⟨d, h5, he⟩ := ob_inv he
    obtain ⟨ke, h6, he⟩ := ob_inv he
    obtain ⟨kd, h7, he⟩ := ob_inv he
    obtain ⟨g1, he⟩ := gd_inv he
    obtain ⟨es, h8, he⟩ := ob_inv he
    obtain ⟨z, h9, he⟩ := ob_inv he
    obtain ⟨res, h10, he⟩ := ob_inv he
    have k1 := opnd_sound ha h1
    have k2 := opnd_sound ha h3
    rw [asMapV_inv h2] at k1
    rw [asIntV_inv h4] at k2
    rw [mapE_inv h6] at h5
    obtain ⟨kd', hkd⟩ := isIntD_inv g1
    rw [hkd] at h7
    obtain ⟨w', v', r1, r2, r3⟩ := op_mapEntry H k1 k2 h5 h7 (mapB_inv h8) h9 he h10
    exact Res.val ⟨[], w', v', r1, by rw [List.append_nil]; exact r2, by rw [List.append_nil]; exact r3⟩ hx
  | entryStore t m s x =>
    rw [hop] at he hx
    obtain ⟨um, h1, he⟩ := ob_inv he
    obtain ⟨r, h2, he⟩ := ob_inv he
    obtain ⟨us, h3, he⟩ := ob_inv he
    obtain ⟨b, h4, he⟩ := ob_inv he
    obtain ⟨ux, h5, he⟩ := ob_inv he
    obtain ⟨es, h6, he⟩ := ob_inv he
    obtain ⟨i, h7, he⟩ := ob_inv he
    cases he
    have k1 := opnd_sound ha h1
    have k2 := opnd_sound ha h3
    rw [asMapV_inv h2] at k1
    rw [asIntV_inv h4] at k2
    exact Res.unit (op_entryStore H t k1 k2 (opnd_sound ha h5) (mapB_inv h6) h7) hx
  | extract x i =>
    rw [hop] at he hx
    obtain ⟨u, h1, he⟩ := ob_inv he
    obtain ⟨vs, h2, he⟩ := ob_inv he
    obtain ⟨v1, h3, he⟩ := ob_inv he
    cases he
    have k1 := opnd_sound ha h1
    rw [asTupV_inv h2] at k1
    exact Res.same H (op_extract k1 h3) hx
  | makeInterface t x =>
    rw [hop] at he hx
    obtain ⟨u, h1, he⟩ := ob_inv he
    obtain ⟨d, h2, he⟩ := ob_inv he
    obtain ⟨g1, he⟩ := gd_inv he
    cases he
    exact Res.same H (op_makeInterface (opnd_sound ha h1) h2 (fun ms q => by rw [q] at g1; cases g1)) hx
  | _ => rw [hop] at he; cases he
end
end Go.Proofs.YtddgcakiceodgaaGreat.EV
