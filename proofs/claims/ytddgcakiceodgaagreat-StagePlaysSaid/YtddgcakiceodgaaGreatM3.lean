/- EV, part 4: an operation of the evaluator's is the model's. -/
import Derived.Test.YtddgcakiceodgaaGreatM2
import Derived.Laws.BytesString
namespace Go.Proofs.YtddgcakiceodgaaGreat.EV
set_option linter.unusedVariables false
set_option linter.unusedSimpArgs false
open Go Go.RowKit

noncomputable def Res (P : Program) (M : List Loc) (w0 : Base) (w : World) (s : Sem Next) (v : Value) (h' : Heap) : Prop :=
  ∃ N w' v', (s.run P w = .ok (.value v') w' ∨ (s.run P w = .ok .skip w' ∧ v' = undef)) ∧ HR (M ++ N) w0 h' w' ∧ VR (M ++ N) v v'

theorem Nat.beq_eq_false_iff_ne' {x y : Nat} : (Nat.beq x y = false) = (x ≠ y) := by
  cases h : Nat.beq x y with
  | true => simp [Nat.eq_of_beq_eq_true h]
  | false => simp [Nat.ne_of_beq_eq_false h]

section
variable {P : Program} {M : List Loc} {w0 : Base} {w : World} {h h' : Heap} {nn : Nat} {tm : Fr} {a : Act}

theorem opnd_sound (ha : FR M nn tm a.tmps) {x : Operand} {v : Value} (hx : opnd tm x = some v) : VR M v (a.eval x) := by
  cases x with
  | tmp t =>
    simp only [opnd, Option.some.injEq] at hx
    subst hx
    exact ha.2 t
  | const c =>
    simp only [opnd] at hx
    cases hc : okC c with
    | false => rw [hc] at hx; cases hx
    | true => rw [hc] at hx; simp only [cnd_true, Option.some.injEq] at hx; subst hx; exact VR.enc M hc
  | func f => simp only [opnd, Option.some.injEq] at hx; subst hx; exact .fn f _ _ _ _ rfl rfl (fun i x y hx => by simp at hx) (fun i x y hx => by simp at hx)
  | global g => simp [opnd] at hx
theorem opnds_sound (ha : FR M nn tm a.tmps) : ∀ {xs : List Operand} {vs : List Value}, opnds tm xs = some vs → LR M vs (xs.map a.eval)
  | [], vs, hx => by simp only [opnds, Option.some.injEq] at hx; subst hx; exact LR.nil M
  | x :: xs, vs, hx => by
    simp only [opnds] at hx
    cases h1 : opnd tm x with
    | none => simp [h1] at hx
    | some v => cases h2 : opnds tm xs with
      | none => simp [h1, h2] at hx
      | some us => simp only [h1, h2, Option.some.injEq] at hx; subst hx; exact LR.cons (opnd_sound ha h1) (opnds_sound ha h2)

theorem run_underlying {t : TypeId} {d : TypeDesc} (hd : P.underlying t = some d) (w : World) : (underlying t).run P w = .ok d w := by
  simp only [underlying, Sem.run_bind, run_program, Result.andThen_ok, hd, Sem.run_pure]
theorem run_typeInfo {t : TypeId} {i : TypeInfo} (hd : P.info? t = some i) (w : World) : (typeInfo t).run P w = .ok i w := by
  simp only [typeInfo, Sem.run_bind, run_program, Result.andThen_ok, hd, Sem.run_pure]
theorem run_sizeOf {t : TypeId} {n : Nat} (hd : sizeT P t = some n) (w : World) : (sizeOf t).run P w = .ok n w := by
  unfold sizeT at hd
  cases hi : P.info? t with
  | none => rw [hi] at hd; cases hd
  | some i =>
    rw [hi] at hd
    simp only [Option.some.injEq] at hd
    simp only [sizeOf, Sem.run_bind, run_typeInfo hi, Result.andThen_ok, hd, Sem.run_pure]
theorem run_zero {t : TypeId} {z : Value} (hd : zeroT P t = some z) (w : World) : (zeroValue t).run P w = .ok z w ∧ okC z = true := by
  unfold zeroT at hd
  cases hi : P.info? t with
  | none => rw [hi] at hd; cases hd
  | some i =>
    rw [hi] at hd
    cases hz : i.zero with
    | none => simp [hz] at hd
    | some v =>
      simp only [hz] at hd
      cases hk : okC v with
      | false => simp [hk] at hd
      | true =>
        simp only [hk, cnd_true, Option.some.injEq] at hd
        subst hd
        exact ⟨by simp only [zeroValue, Sem.run_bind, run_typeInfo hi, Result.andThen_ok, hz, Sem.run_pure], hk⟩
theorem run_isAgg {t : TypeId} {b : Bool} (hd : isAggT P t = some b) (w : World) : (isAgg t).run P w = .ok b w := by
  unfold isAggT at hd
  cases hu : P.underlying t with
  | none => rw [hu] at hd; cases hd
  | some d =>
    rw [hu] at hd
    simp only [isAgg, Sem.run_bind, run_underlying hu, Result.andThen_ok]
    cases d <;> simp only [Option.some.injEq] at hd <;> subst hd <;> rfl
theorem run_newRow (e : TypeId) (c : Array Value) (w : World) : (newRow e c).run P w = .ok ⟨w.heap.size, 0, none⟩ (w.alloc (.cells c e (0, 0))) := rfl

theorem cells_toList (v : Value) : v.cells.toList = EV.cellsL v := by cases v <;> rfl
theorem ptr_new (H : HR M w0 h w) (c es : Nat) : VR (M ++ [⟨w.heap.size, 0, c, es⟩]) (ptr h.next 0) (.pointer (some ⟨w.heap.size, 0, none⟩)) :=
  .ptr h.next 0 ⟨w.heap.size, 0, c, es⟩ (get_new M _ _ H.len)
/-! ### a new block, told apart from the memory that it comes to lie in -/
noncomputable def NewR (P : Program) (M : List Loc) (w : World) (s : Sem Value) (x : Blk) (v : Nat → Value) : Prop := ∃ (l : Loc) (obj : Obj) (v' : Value), s.run P w = .ok v' (w.alloc obj) ∧ l.blk = w.heap.size ∧ own x = true ∧
  (∀ (N : List Loc) (B : Base) (w2 : World), w2.heap[l.blk]? = some obj → ¬ B.kept l.blk → BR (M ++ N) B w2 l x) ∧ ∀ (N : List Loc) (id : Nat), (M ++ N)[id]? = some l → VR (M ++ N) (v id) v'
theorem NewR.op (H : HR M w0 h w) {s : Sem Value} {x : Blk} {v : Nat → Value} (hn : NewR P M w s x v) : ∃ N w' v', s.run P w = .ok v' w' ∧ HR (M ++ N) w0 (h.push x) w' ∧ VR (M ++ N) (v h.next) v' := by
  obtain ⟨l, obj, v', h1, h2, _, h4, h5⟩ := hn
  refine ⟨[l], _, v', h1, H.alloc obj l x h2 (h4 [l] w0 _ (by rw [h2]; exact heap_new w obj) (by rw [h2]; exact H.bel.fresh (Nat.le_refl _))), h5 [l] h.next (get_new M l _ H.len)⟩
theorem cells_new (c : List Value) (es : Nat) (cc : Array Value) (e : TypeId) (hc : LR M c cc.toList) (k : Nat) : ∀ (N : List Loc) (B : Base) (w2 : World), w2.heap[k]? = some (.cells cc e (0, 0)) → ¬ B.kept k → BR (M ++ N) B w2 ⟨k, 0, cc.size, es⟩ (.cells c es) := by
  intro N B w2 hw hk
  refine ⟨rfl, hk, cc, e, (0, 0), hw, rfl, frz_zero _, by rw [hc.1]; simp, fun i x hx => ?_⟩
  obtain ⟨y, h1, h2⟩ := hc.get hx
  exact ⟨y, by simpa using h1, h2.mono N⟩
theorem new_alloc {e : TypeId} {z : Value} (hz : zeroT P e = some z) : NewR P M w (Instr.alloc e true (.tuple #[])) (.cells (EV.cellsL (EV.enc z)) 0) (fun id => ptr id 0) := by
  obtain ⟨h1, h2⟩ := run_zero hz w
  refine ⟨⟨w.heap.size, 0, z.cells.size, 0⟩, .cells z.cells e (0, 0), .pointer (some ⟨w.heap.size, 0 + 0, none⟩), ?_, rfl, rfl, cells_new _ 0 z.cells e (VR.enc M h2).cellsL _, fun N id hid => .ptr id 0 _ hid⟩
  simp only [Instr.alloc, Sem.run_bind, h1, Result.andThen_ok, newVar, run_newRow, Sem.run_pure]
theorem new_box (e : TypeId) {v v' : Value} (hv : VR M v v') : NewR P M w (Instr.box e v') (.cells (EV.cellsL v) 0) (fun id => ptr id 0) :=
  ⟨⟨w.heap.size, 0, v'.cells.size, 0⟩, .cells v'.cells e (0, 0), .pointer (some ⟨w.heap.size, 0 + 0, none⟩), by simp only [Instr.box, newVar, Sem.run_bind, run_newRow, Result.andThen_ok, Sem.run_pure], rfl, rfl, cells_new _ 0 v'.cells e hv.cellsL _, fun N id hid => .ptr id 0 _ hid⟩
theorem op_alloc (H : HR M w0 h w) {e : TypeId} {z : Value} (hz : zeroT P e = some z) : ∃ N w' v', (Instr.alloc e true (.tuple #[])).run P w = .ok v' w' ∧ HR (M ++ N) w0 (h.push (.cells (EV.cellsL (EV.enc z)) 0)) w' ∧ VR (M ++ N) (ptr h.next 0) v' := by
  obtain ⟨h1, h2⟩ := run_zero hz w
  refine ⟨_, _, _, ?_, H.alloc_row _ 0 z.cells e (VR.enc M h2).cellsL, ptr_new H _ _⟩
  simp only [Instr.alloc, Sem.run_bind, h1, Result.andThen_ok, newVar, run_newRow, Sem.run_pure]
theorem op_box (H : HR M w0 h w) (e : TypeId) {v v' : Value} (hv : VR M v v') : ∃ N w' u', (Instr.box e v').run P w = .ok u' w' ∧ HR (M ++ N) w0 (h.push (.cells (EV.cellsL v) 0)) w' ∧ VR (M ++ N) (ptr h.next 0) u' :=
  ⟨_, _, _, by simp only [Instr.box, newVar, Sem.run_bind, run_newRow, Result.andThen_ok, Sem.run_pure], H.alloc_row _ 0 v'.cells e hv.cellsL, ptr_new H _ _⟩
theorem run_loadCells' {b o : Nat} (cs : List Value) (hc : ∀ i y, cs[i]? = some y → w.cell? ⟨b, o + i, none⟩ = some y) : (loadCells ⟨b, o, none⟩ cs.length).run P w = .ok cs.toArray w :=
  run_loadCells_list w _ cs fun j v hv => by rw [addr_add]; exact hc j v hv
theorem ptr_inv {b o : Nat} {u : Value} (hv : VR M (.pointer (some ⟨b, o, none⟩)) u) : ∃ l, M[b]? = some l ∧ u = .pointer (some ⟨l.blk, l.sh + o, none⟩) := by
  cases hv with
  | ptr b o l h => exact ⟨l, h, rfl⟩
theorem op_load_agg (H : HR M w0 h w) {t : TypeId} {b o n : Nat} {u : Value} {c : List Value} (hu : VR M (.pointer (some ⟨b, o, none⟩)) u) (hg : isAggT P t = some true) (hs : sizeT P t = some n) (hr : h.rd b o n = some c) :
    ∃ c', (Instr.loadAt t u).run P w = .ok (.agg c') w ∧ VR M (.agg ⟨c⟩) (.agg c') := by
  obtain ⟨l, hl, rfl⟩ := ptr_inv hu
  obtain ⟨h1, c', h2, h3⟩ := H.rd hl hr
  have hn : n = c'.length := by rw [← h2.1, h1]
  refine ⟨c'.toArray, ?_, .agg _ _ (by simpa using h2.1) (by simpa using h2.2)⟩
  simp only [Instr.loadAt, Instr.sureAddr, loadVar, Sem.run_bind, Sem.run_pure, Result.andThen_ok, run_isAgg hg, run_sizeOf hs, if_true, hn]
  rw [run_loadCells' c' h3]; rfl
theorem op_load_one (H : HR M w0 h w) {t : TypeId} {b o : Nat} {u v : Value} (hu : VR M (.pointer (some ⟨b, o, none⟩)) u) (hg : isAggT P t = some false) (hr : h.rd1 b o = some v) :
    ∃ v', (Instr.loadAt t u).run P w = .ok v' w ∧ VR M v v' := by
  obtain ⟨l, hl, rfl⟩ := ptr_inv hu
  obtain ⟨v', h1, h2⟩ := H.rd1 hl hr
  refine ⟨v', ?_, h2⟩
  simp only [Instr.loadAt, Instr.sureAddr, loadVar, Sem.run_bind, Sem.run_pure, Result.andThen_ok, run_isAgg hg, Bool.false_eq_true, if_false, run_load, h1]
theorem op_store (H : HR M w0 h w) {t : TypeId} {b o n : Nat} {u v v' : Value} (hu : VR M (.pointer (some ⟨b, o, none⟩)) u) (hv : VR M v v') (hs : sizeT P t = some n) (hn : (EV.cellsL v).length = n) (hw : h.wr b o (EV.cellsL v) = some h') :
    ∃ w', (Instr.storeAt t u v').run P w = .ok () w' ∧ HR M w0 h' w' := by
  obtain ⟨l, hl, rfl⟩ := ptr_inv hu
  obtain ⟨w', h1, h2⟩ := H.wr P hl hw hv.cellsL
  refine ⟨w', ?_, h2⟩
  have hc : v'.cells.size = n := by rw [← Array.length_toList, ← hv.cellsL.1, hn]
  simp only [Instr.storeAt, Instr.sureAddr, storeVar, Sem.run_bind, Sem.run_pure, Result.andThen_ok, run_sizeOf hs, hc, ne_eq, not_true_eq_false, if_false, h1]

/-! ### composites -/
theorem LR.splice {M : List Loc} : ∀ {xs ys c d : List Value} {o : Nat}, LR M c d → LR M xs ys → LR M (EV.splice c o xs) (EV.splice d o ys)
  | [], ys, c, d, o, hc, hx => by rw [hx.nil_inv]; exact hc
  | x :: xs, ys, c, d, o, hc, hx => by
    obtain ⟨y, ys', rfl, hv, hx'⟩ := hx.cons_inv
    exact LR.splice (o := o + 1) (hc.set o hv) hx'
theorem foldl_set (off : Nat) : ∀ (xs : List Value) (k : Nat) (cs : Array Value), ((xs.zipIdx k).foldl (fun (cs : Array Value) (p : Value × Nat) => cs.setIfInBounds (off + p.2) p.1) cs).toList = EV.splice cs.toList (off + k) xs
  | [], k, cs => rfl
  | x :: xs, k, cs => by
    simp only [List.zipIdx_cons, List.foldl_cons]
    rw [foldl_set off xs (k + 1)]
    simp only [Array.toList_setIfInBounds, EV.splice]
    rfl
theorem foldl_set' (off : Nat) (xs cs : Array Value) : (xs.zipIdx.foldl (fun (cs : Array Value) (x : Value × Nat) => match x with | (c, j) => cs.setIfInBounds (off + j) c) cs).toList = EV.splice cs.toList off xs.toList := by
  rw [← Array.foldl_toList, Array.toList_zipIdx]
  exact foldl_set off xs.toList 0 cs
theorem fill_sound {place place' : Nat → Option (Nat × Nat)} (hp : ∀ i, place' i = place i) : ∀ {ps : List (Nat × Value)} {ps' : List (Nat × Value)} {c c2 : List Value} {d : Array Value}, LR M c d.toList → ps.length = ps'.length →
    (∀ (i : Nat) (x y : Nat × Value), ps[i]? = some x → ps'[i]? = some y → y.1 = x.1 ∧ VR M x.2 y.2) → EV.fillL place c ps = some c2 → ∃ d2, Instr.fill place' d ps' = some d2 ∧ LR M c2 d2.toList
  | [], ps', c, c2, d, hc, hl, hr, hf => by
    cases ps' with
    | cons => simp at hl
    | nil => simp only [EV.fillL, Option.some.injEq] at hf; subst hf; exact ⟨d, rfl, hc⟩
  | (i, v) :: ps, ps', c, c2, d, hc, hl, hr, hf => by
    cases ps' with
    | nil => simp at hl
    | cons q ps' =>
      obtain ⟨i', v'⟩ := q
      obtain ⟨h1, h2⟩ := hr 0 _ _ rfl rfl
      simp only at h1 h2
      subst h1
      simp only [EV.fillL] at hf
      cases hpl : place i' with
      | none => simp [hpl] at hf
      | some os =>
        obtain ⟨off, size⟩ := os
        simp only [hpl] at hf
        cases hk : (Nat.beq (EV.cellsL v).length size && Nat.ble (off + size) c.length) with
        | false => simp [hk] at hf
        | true =>
          simp only [hk, cnd_true] at hf
          simp only [Bool.and_eq_true] at hk
          have k1 : (EV.cellsL v).length = size := Nat.eq_of_beq_eq_true hk.1
          have k2 := Nat.le_of_ble_eq_true hk.2
          have e1 : v'.cells.size = size := by rw [← Array.length_toList, ← h2.cellsL.1, k1]
          have e2 : d.size = c.length := by rw [← Array.length_toList, ← hc.1]
          have hnew : LR M (EV.splice c off (EV.cellsL v)) (v'.cells.zipIdx.foldl (fun (cs : Array Value) (x : Value × Nat) => match x with | (c, j) => cs.setIfInBounds (off + j) c) d).toList := by
            rw [foldl_set']; exact hc.splice h2.cellsL
          obtain ⟨d2, h3, h4⟩ := fill_sound hp hnew (by simpa using hl) (fun j x y hx hy => hr (j + 1) x y (by simpa using hx) (by simpa using hy)) hf
          refine ⟨d2, ?_, h4⟩
          simp only [Instr.fill, hp, hpl, e1, ne_eq, not_true_eq_false, decide_false, Bool.false_or]
          rw [if_neg (by simp; omega)]
          exact h3
theorem parts_sound (ha : FR M nn tm a.tmps) : ∀ {xs : List (Nat × Operand)} {ps : List (Nat × Value)}, EV.partsL tm xs = some ps → ps.length = (xs.map fun p => (p.1, a.eval p.2)).length ∧
    ∀ (i : Nat) (x y : Nat × Value), ps[i]? = some x → (xs.map fun p => (p.1, a.eval p.2))[i]? = some y → y.1 = x.1 ∧ VR M x.2 y.2
  | [], ps, hx => by simp only [EV.partsL, Option.some.injEq] at hx; subst hx; exact ⟨rfl, fun i x y h => by simp at h⟩
  | (i, x) :: xs, ps, hx => by
    simp only [EV.partsL] at hx
    cases h1 : opnd tm x with
    | none => simp [h1] at hx
    | some v => cases h2 : EV.partsL tm xs with
      | none => simp [h1, h2] at hx
      | some us =>
        simp only [h1, h2, Option.some.injEq] at hx
        subst hx
        obtain ⟨i1, i2⟩ := parts_sound ha h2
        refine ⟨by simpa using i1, fun j x y hx hy => ?_⟩
        cases j with
        | zero => simp at hx hy; subst hx; subst hy; exact ⟨rfl, opnd_sound ha h1⟩
        | succ j => exact i2 j x y (by simpa using hx) (by simpa using hy)
theorem places_run : ∀ {fs : List Field} {pl : List (Nat × Nat)}, EV.placesL P fs = some pl → (fs.mapM fun f => do pure (f.offset, ← sizeOf f.type) : Sem (List (Nat × Nat))).run P w = .ok pl w
  | [], pl, hp => by simp only [EV.placesL, Option.some.injEq] at hp; subst hp; rfl
  | f :: fs, pl, hp => by
    simp only [EV.placesL] at hp
    cases h1 : sizeT P f.type with
    | none => simp [h1] at hp
    | some n => cases h2 : EV.placesL P fs with
      | none => simp [h1, h2] at hp
      | some r =>
        simp only [h1, h2, Option.some.injEq] at hp
        subst hp
        simp only [List.mapM_cons, Sem.run_bind, run_sizeOf h1, Result.andThen_ok, Sem.run_pure, places_run h2]
theorem op_build_struct (H : HR M w0 h w) (ha : FR M nn tm a.tmps) {t : TypeId} {parts : Array (Nat × Operand)} {z : Value} {ps : List (Nat × Value)} {fs : Array Field} {pl : List (Nat × Nat)} {c : List Value}
    (hz : zeroT P t = some z) (hp : EV.partsL tm parts.toList = some ps) (hu : P.underlying t = some (.struct fs)) (hpl : EV.placesL P fs.toList = some pl) (hf : EV.fillL (fun i => pl[i]?) (EV.cellsL (EV.enc z)) ps = some c) :
    ∃ v', (Instr.build t (parts.map fun (i, x) => (i, a.eval x))).run P w = .ok v' w ∧ VR M (.agg ⟨c⟩) v' := by
  obtain ⟨h1, h2⟩ := run_zero hz w
  obtain ⟨q1, q2⟩ := parts_sound ha hp
  have hmap : (parts.map fun (i, x) => (i, a.eval x)).toList = parts.toList.map fun p => (p.1, a.eval p.2) := by rw [Array.toList_map]
  obtain ⟨d2, h3, h4⟩ := fill_sound (place' := fun i => (pl.toArray)[i]?) (fun i => by simp) (d := z.cells) (VR.enc M h2).cellsL q1 q2 hf
  refine ⟨.agg d2, ?_, .agg _ _ h4.1 h4.2⟩
  simp only [Instr.build, Sem.run_bind, h1, Result.andThen_ok, run_underlying hu, hmap]
  have hm : (fs.mapM (fun f => do pure (f.offset, ← sizeOf f.type)) : Sem (Array (Nat × Nat))).run P w = .ok pl.toArray w := by
    rw [Array.mapM_eq_mapM_toList, Sem.run_map, places_run hpl]; rfl
  rw [hm]
  simp only [Result.andThen_ok, h3, Sem.run_pure]
theorem op_build_array (H : HR M w0 h w) (ha : FR M nn tm a.tmps) {t e : TypeId} {m n : Nat} {parts : Array (Nat × Operand)} {z : Value} {ps : List (Nat × Value)} {c : List Value}
    (hz : zeroT P t = some z) (hp : EV.partsL tm parts.toList = some ps) (hu : P.underlying t = some (.array m e)) (hs : sizeT P e = some n) (hf : EV.fillL (fun i => some (i * n, n)) (EV.cellsL (EV.enc z)) ps = some c) :
    ∃ v', (Instr.build t (parts.map fun (i, x) => (i, a.eval x))).run P w = .ok v' w ∧ VR M (.agg ⟨c⟩) v' := by
  obtain ⟨h1, h2⟩ := run_zero hz w
  obtain ⟨q1, q2⟩ := parts_sound ha hp
  have hmap : (parts.map fun (i, x) => (i, a.eval x)).toList = parts.toList.map fun p => (p.1, a.eval p.2) := by rw [Array.toList_map]
  obtain ⟨d2, h3, h4⟩ := fill_sound (place' := fun i => some (i * n, n)) (fun i => rfl) (d := z.cells) (VR.enc M h2).cellsL q1 q2 hf
  refine ⟨.agg d2, ?_, .agg _ _ h4.1 h4.2⟩
  simp only [Instr.build, Sem.run_bind, h1, Result.andThen_ok, run_underlying hu, hmap, run_sizeOf hs, h3, Sem.run_pure]
theorem zeroRow_LR {z : Value} (hz : okC z = true) (m n : Nat) (hn : (EV.cellsL z).length = n) (h1 : 1 ≤ n) : LR M (EV.zeroRow (EV.cellsL (EV.enc z)) m) ((Array.range (m * n)).map (z.cells[· % z.cells.size]!)).toList := by
  have hc := (VR.enc M hz).cellsL
  have hzl : z.cells.size = n := by rw [← Array.length_toList, cells_toList, hn]
  have hel : (EV.cellsL (EV.enc z)).length = n := by rw [hc.1, Array.length_toList, hzl]
  rw [Array.toList_map, Array.toList_range]
  unfold EV.zeroRow
  rw [hel, hzl]
  refine LR.of_map _ _ _ fun i hi => ?_
  have hlt : i % n < n := Nat.mod_lt _ h1
  have g1 : (EV.cellsL (EV.enc z))[i % n]? = some ((EV.cellsL (EV.enc z)).getD (i % n) undef) := by
    rw [List.getD_eq_getElem?_getD, List.getElem?_eq_getElem (by omega)]; rfl
  have g2 : z.cells.toList[i % n]? = some (z.cells[i % n]!) := by
    rw [Array.getElem?_toList, Array.getElem?_eq_getElem (by omega), getElem!_pos _ _ (by omega)]
  exact hc.2 _ _ _ g1 g2
theorem op_buildSlice (H : HR M w0 h w) (ha : FR M nn tm a.tmps) {t e : TypeId} {len n : Nat} {parts : Array (Nat × Operand)} {z : Value} {ps : List (Nat × Value)} {c : List Value}
    (hu : P.underlying t = some (.slice e)) (hp : EV.partsL tm parts.toList = some ps) (hs : sizeT P e = some n) (hz : zeroT P e = some z) (hb : len * n ≤ 16777216) (hn : (EV.cellsL z).length = n) (h1 : 1 ≤ n)
    (hf : EV.fillL (fun i => some (i * n, n)) (EV.zeroRow (EV.cellsL (EV.enc z)) len) ps = some c) :
    ∃ N w' v', (Instr.buildSlice t len (parts.map fun (i, x) => (i, a.eval x))).run P w = .ok v' w' ∧ HR (M ++ N) w0 (h.push (.cells c n)) w' ∧ VR (M ++ N) (.slice (some ⟨h.next, 0, none⟩) len (2 * len + 1)) v' := by
  obtain ⟨r1, r2⟩ := run_zero hz w
  obtain ⟨q1, q2⟩ := parts_sound ha hp
  have hmap : (parts.map fun (i, x) => (i, a.eval x)).toList = parts.toList.map fun p => (p.1, a.eval p.2) := by rw [Array.toList_map]
  obtain ⟨d2, h3, h4⟩ := fill_sound (place' := fun i => some (i * n, n)) (fun i => rfl) (zeroRow_LR (M := M) r2 len n hn h1) q1 q2 hf
  refine ⟨[⟨w.heap.size, 0, d2.size, n⟩], _, .slice (some ⟨w.heap.size, 0 + 0, none⟩) len len, ?_, H.alloc_row c n d2 e h4, .sx _ _ _ _ _ ⟨w.heap.size, 0, d2.size, n⟩ (get_new M _ _ H.len) (Nat.le_refl _) (fun _ => rfl)⟩
  have hb' : ¬ len * n > 2 ^ 24 := by omega
  simp only [Instr.buildSlice, Sem.run_bind, run_underlying hu, Result.andThen_ok, run_sizeOf hs, hb', if_false]
  by_cases h0 : len * n = 0
  · have hl0 : len = 0 := by rcases Nat.mul_eq_zero.1 h0 with q | q <;> omega
    subst hl0
    have e0 : ∀ q : Array Value, (Array.range 0).map (fun x => q[x % q.size]!) = #[] := fun q => by simp
    simp only [Nat.zero_mul, e0] at h3
    simp only [Nat.zero_mul, if_true, Sem.run_bind, Sem.run_pure, Result.andThen_ok, hmap, e0, h3, run_newRow]
  · simp only [h0, if_false, Sem.run_bind, r1, Result.andThen_ok, Sem.run_pure, hmap, h3, run_newRow]

theorem new_buildSlice (ha : FR M nn tm a.tmps) {t e : TypeId} {len n : Nat} {parts : Array (Nat × Operand)} {z : Value} {ps : List (Nat × Value)} {c : List Value}
    (hu : P.underlying t = some (.slice e)) (hp : EV.partsL tm parts.toList = some ps) (hs : sizeT P e = some n) (hz : zeroT P e = some z) (hb : len * n ≤ 16777216) (hn : (EV.cellsL z).length = n) (h1 : 1 ≤ n)
    (hf : EV.fillL (fun i => some (i * n, n)) (EV.zeroRow (EV.cellsL (EV.enc z)) len) ps = some c) :
    NewR P M w (Instr.buildSlice t len (parts.map fun (i, x) => (i, a.eval x))) (.cells c n) (fun id => .slice (some ⟨id, 0, none⟩) len (2 * len + 1)) := by
  obtain ⟨r1, r2⟩ := run_zero hz w
  obtain ⟨q1, q2⟩ := parts_sound ha hp
  have hmap : (parts.map fun (i, x) => (i, a.eval x)).toList = parts.toList.map fun p => (p.1, a.eval p.2) := by rw [Array.toList_map]
  obtain ⟨d2, h3, h4⟩ := fill_sound (place' := fun i => some (i * n, n)) (fun i => rfl) (zeroRow_LR (M := M) r2 len n hn h1) q1 q2 hf
  refine ⟨⟨w.heap.size, 0, d2.size, n⟩, .cells d2 e (0, 0), .slice (some ⟨w.heap.size, 0 + 0, none⟩) len len, ?_, rfl, rfl, cells_new c n d2 e h4 _, fun N id hid => .sx _ _ _ _ _ ⟨w.heap.size, 0, d2.size, n⟩ hid (Nat.le_refl _) (fun _ => rfl)⟩
  have hb' : ¬ len * n > 2 ^ 24 := by omega
  simp only [Instr.buildSlice, Sem.run_bind, run_underlying hu, Result.andThen_ok, run_sizeOf hs, hb', if_false]
  by_cases h0 : len * n = 0
  · have hl0 : len = 0 := by rcases Nat.mul_eq_zero.1 h0 with q | q <;> omega
    subst hl0
    have e0 : ∀ q : Array Value, (Array.range 0).map (fun x => q[x % q.size]!) = #[] := fun q => by simp
    simp only [Nat.zero_mul, e0] at h3
    simp only [Nat.zero_mul, if_true, Sem.run_bind, Sem.run_pure, Result.andThen_ok, hmap, e0, h3, run_newRow]
  · simp only [h0, if_false, Sem.run_bind, r1, Result.andThen_ok, Sem.run_pure, hmap, h3, run_newRow]

/-! ### places and parts -/
theorem part_sound {t : TypeId} {cs : List Value} {cs' : Array Value} {off : Nat} {v : Value} (hc : LR M cs cs'.toList) (hp : EV.partV P t cs off = some v) : ∃ v', (part t cs' off).run P w = .ok v' w ∧ VR M v v' := by
  unfold EV.partV at hp
  cases hg : isAggT P t with
  | none => simp [hg] at hp
  | some b =>
    cases b with
    | true =>
      simp only [hg] at hp
      cases hs : sizeT P t with
      | none => simp [hs] at hp
      | some n =>
        simp only [hs] at hp
        cases hk : Nat.ble (off + n) cs.length with
        | false => simp [hk] at hp
        | true =>
          simp only [hk, cnd_true, Option.some.injEq] at hp
          subst hp
          have h2 := (hc.drop off).take n
          refine ⟨.agg (cs'.extract off (off + n)), ?_, .agg _ _ ?_ ?_⟩
          · simp only [part, Sem.run_bind, run_isAgg hg, Result.andThen_ok, if_true, run_sizeOf hs, Sem.run_pure]
          · simpa [Array.toList_extract, List.extract_eq_take_drop] using h2.1
          · simpa [Array.toList_extract, List.extract_eq_take_drop] using h2.2
    | false =>
      simp only [hg] at hp
      obtain ⟨y, h1, h2⟩ := hc.get hp
      refine ⟨y, ?_, h2⟩
      have h1' : cs'[off]? = some y := by simpa using h1
      simp only [part, Sem.run_bind, run_isAgg hg, Result.andThen_ok, Bool.false_eq_true, if_false, h1', Sem.run_pure]
theorem agg_inv {cs : Array Value} {u : Value} (hv : VR M (.agg cs) u) : ∃ cs', u = .agg cs' ∧ LR M cs.toList cs'.toList := by
  cases hv with
  | agg a a' ha h1 => exact ⟨a', rfl, ha, h1⟩
theorem tuple_inv {cs : Array Value} {u : Value} (hv : VR M (.tuple cs) u) : ∃ cs', u = .tuple cs' ∧ LR M cs.toList cs'.toList := by
  cases hv with
  | tuple a a' ha h1 => exact ⟨a', rfl, ha, h1⟩
theorem int_inv {k : IntKind} {n : Int} {u : Value} (hv : VR M (.int k n) u) : u = .int k n := by cases hv; rfl
theorem bool_inv {b : Bool} {u : Value} (hv : VR M (.bool b) u) : u = .bool b := by cases hv; rfl
theorem str_inv {s : ByteArray} {u : Value} (hv : VR M (.string s) u) : u = .string s := by cases hv; rfl
theorem map_inv {r : Nat} {u : Value} (hv : VR M (.map (some r)) u) : ∃ l, M[r]? = some l ∧ u = .map (some l.blk) := by
  cases hv with
  | map r l h => exact ⟨l, h, rfl⟩
theorem op_fieldAddr {t : TypeId} {b o f n : Nat} {u : Value} {fs : Array Field} {g : Field} (hu : VR M (.pointer (some ⟨b, o, none⟩)) u) (ht : P.underlying t = some (.struct fs)) (hf : fs.toList[f]? = some g) (hs : sizeT P g.type = some n) (hn : n ≠ 0) :
    ∃ v', (Instr.fieldAt t u f).run P w = .ok v' w ∧ VR M (ptr b (o + g.offset)) v' := by
  obtain ⟨l, hl, rfl⟩ := ptr_inv hu
  refine ⟨_, ?_, .ptr _ _ l hl⟩
  have hf' : fs[f]? = some g := by simpa using hf
  simp only [Instr.fieldAt, Instr.sureAddr, fieldPlace, Sem.run_bind, run_underlying ht, Result.andThen_ok, hf', Sem.run_pure, run_sizeOf hs, hn, if_false, addr_add]
  simp only [Nat.add_assoc]
theorem op_field {t : TypeId} {f : Nat} {cs : Array Value} {u v : Value} {fs : Array Field} {g : Field} (hu : VR M (.agg cs) u) (ht : P.underlying t = some (.struct fs)) (hf : fs.toList[f]? = some g) (hp : EV.partV P g.type cs.toList g.offset = some v) :
    ∃ v', (Instr.field t u f).run P w = .ok v' w ∧ VR M v v' := by
  obtain ⟨cs', rfl, hc⟩ := agg_inv hu
  obtain ⟨v', h1, h2⟩ := part_sound (w := w) hc hp
  refine ⟨v', ?_, h2⟩
  have hf' : fs[f]? = some g := by simpa using hf
  simp only [Instr.field, asAgg, Sem.run_bind, run_underlying ht, Result.andThen_ok, hf', Sem.run_pure, h1]
theorem op_extract {v : Value} {vs : Array Value} {i : Nat} {u : Value} (hu : VR M (.tuple vs) u) (hi : vs.toList[i]? = some v) : ∃ v', (Instr.extract u i).run P w = .ok v' w ∧ VR M v v' := by
  obtain ⟨vs', rfl, hc⟩ := tuple_inv hu
  obtain ⟨y, h1, h2⟩ := hc.get hi
  have h1' : vs'[i]? = some y := by simpa using h1
  exact ⟨y, by simp only [Instr.extract, h1', Sem.run_pure], h2⟩
theorem op_indexAddr_arr {t e : TypeId} {b o n sz : Nat} {k : IntKind} {i : Int} {u ui : Value} (hu : VR M (.pointer (some ⟨b, o, none⟩)) u) (hi : VR M (.int k i) ui) (ht : P.underlying t = some (.array n e)) (hs : sizeT P e = some sz) (h0 : 0 ≤ i) (h1 : i < n) :
    ∃ v', (Instr.indexAt t u ui).run P w = .ok v' w ∧ VR M (ptr b (o + i.toNat * sz)) v' := by
  obtain ⟨l, hl, rfl⟩ := ptr_inv hu
  rw [int_inv hi]
  refine ⟨_, ?_, .ptr _ _ l hl⟩
  simp only [Instr.indexAt, asIntOf, Instr.sureAddr, Sem.run_bind, Sem.run_pure, Result.andThen_ok, run_underlying ht, h0, h1, and_self, if_true, run_sizeOf hs, addr_add]
  simp only [Nat.add_assoc]
theorem slice_inv {b o n c2 : Nat} {u : Value} (hv : VR M (.slice (some ⟨b, o, none⟩) n c2) u) : ∃ l x c', M[b]? = some l ∧ u = .slice (some ⟨l.blk, x, none⟩) n c' ∧ n ≤ c2 / 2 ∧ c2 / 2 ≤ c' ∧ (c' ≠ 0 → x = l.sh + o) ∧ (c2 % 2 = 1 → c' = c2 / 2) ∧ (c2 % 2 = 0 → c' ≠ 0 → x + c' * l.es ≤ l.size) := by
  cases hv with
  | sx b o n c x l h hn hx => exact ⟨l, x, c, h, rfl, by omega, by omega, hx, fun _ => by omega, fun h => by omega⟩
  | sg b o n c c' x l h hc hn hx => exact ⟨l, x, c', h, rfl, by omega, by omega, fun hc => (hx hc).1, fun h => by omega, fun _ hc => (hx hc).2⟩
theorem slice_nil_inv {n c2 : Nat} {u : Value} (hv : VR M (.slice none n c2) u) : ∃ c, c2 = 2 * c + 1 ∧ u = .slice none n c := by
  cases hv with
  | snil n c => exact ⟨c, rfl, rfl⟩
theorem op_indexAddr_slice {t e : TypeId} {b o n c2 sz : Nat} {k : IntKind} {i : Int} {u ui : Value} (hu : VR M (.slice (some ⟨b, o, none⟩) n c2) u) (hi : VR M (.int k i) ui) (ht : P.underlying t = some (.slice e)) (hs : sizeT P e = some sz) (h0 : 0 ≤ i) (h1 : i < n) :
    ∃ v', (Instr.indexAt t u ui).run P w = .ok v' w ∧ VR M (ptr b (o + i.toNat * sz)) v' := by
  obtain ⟨l, x, c', hl, rfl, h2, h3, h4, _, _⟩ := slice_inv hu
  rw [int_inv hi]
  have hx : x = l.sh + o := h4 (by omega)
  subst hx
  refine ⟨_, ?_, .ptr _ _ l hl⟩
  simp only [Instr.indexAt, asIntOf, Instr.sureAddr, Sem.run_bind, Sem.run_pure, Result.andThen_ok, run_underlying ht, h0, h1, and_self, if_true, run_sizeOf hs, addr_add]
  simp only [Nat.add_assoc]
theorem op_index_arr {t e : TypeId} {n sz : Nat} {cs : Array Value} {k : IntKind} {i : Int} {u ui v : Value} (hu : VR M (.agg cs) u) (hi : VR M (.int k i) ui) (ht : P.underlying t = some (.array n e)) (hs : sizeT P e = some sz) (h0 : 0 ≤ i) (h1 : i < n)
    (hp : EV.partV P e cs.toList (i.toNat * sz) = some v) : ∃ v', (Instr.index t u ui).run P w = .ok v' w ∧ VR M v v' := by
  obtain ⟨cs', rfl, hc⟩ := agg_inv hu
  rw [int_inv hi]
  obtain ⟨v', h2, h3⟩ := part_sound (w := w) hc hp
  refine ⟨v', ?_, h3⟩
  simp only [Instr.index, asIntOf, Sem.run_bind, Sem.run_pure, Result.andThen_ok, run_underlying ht, h0, h1, and_self, if_true, run_sizeOf hs, h2]
theorem op_index_str {t : TypeId} {s : ByteArray} {k : IntKind} {i : Int} {u ui : Value} {b : UInt8} (hu : VR M (.string s) u) (hi : VR M (.int k i) ui) (ht : P.underlying t = some .string) (h0 : 0 ≤ i) (hb : s.data.toList[i.toNat]? = some b) :
    ∃ v', (Instr.index t u ui).run P w = .ok v' w ∧ VR M (.int .u8 b.toNat) v' := by
  rw [str_inv hu, int_inv hi]
  refine ⟨_, ?_, .int _ _⟩
  have hb' : s[i.toNat]? = some b := by
    rw [Array.getElem?_toList] at hb
    have := (Array.getElem?_eq_some_iff.1 hb)
    obtain ⟨h1, h2⟩ := this
    show (if h : i.toNat < s.size then some s[i.toNat] else none) = some b
    rw [dif_pos (show i.toNat < s.size from h1)]; exact congrArg some h2
  simp only [Instr.index, asIntOf, Sem.run_bind, Sem.run_pure, Result.andThen_ok, run_underlying ht, h0, if_true, hb']

/-! ### cuts -/
noncomputable def OR (M : List Loc) : Option Value → Option Value → Prop
  | none, none => True
  | some x, some y => VR M x y
  | _, _ => False
theorem optOpnd_sound (ha : FR M nn tm a.tmps) {x : Option Operand} {v : Option Value} (hx : optOpnd tm x = some v) : OR M v (x.map a.eval) := by
  cases x with
  | none => simp only [optOpnd, Option.some.injEq] at hx; subst hx; trivial
  | some x =>
    simp only [optOpnd] at hx
    cases h1 : opnd tm x with
    | none => simp [h1] at hx
    | some u => simp only [h1, Option.some.injEq] at hx; subst hx; exact opnd_sound ha h1
theorem bound_sound {v u : Value} {n y : Nat} {code : BoundsCode} (hv : VR M v u) (hn : natOf v = some n) (hy : n ≤ y) : (Instr.sliceBound u y code).run P w = .ok n w := by
  cases v with
  | int k i =>
    rw [int_inv hv]
    simp only [natOf] at hn
    by_cases h0 : i < 0
    · simp [h0] at hn
    · simp only [h0, if_false, Option.some.injEq] at hn
      have c : 0 ≤ i ∧ i ≤ (y : Int) := by omega
      simp only [Instr.sliceBound, asIntOf, Sem.run_bind, Sem.run_pure, Result.andThen_ok, c, and_self, if_true, hn]
  | _ => simp [natOf] at hn
theorem cut_sound {isSlice : Bool} {len c c' l r m : Nat} {ex : Bool} {lo hi mx lo' hi' mx' : Option Value} (hcc : c ≤ c') (hl : OR M lo lo') (hh : OR M hi hi') (hm : OR M mx mx') (h : cutEnds len c lo hi mx = some (l, r, m, ex)) :
    (Instr.sliceBounds isSlice len c' lo' hi' mx').run P w = .ok (l, r, if ex then m else c') w ∧ l ≤ r ∧ m ≤ c ∧ (ex = true → r ≤ m) ∧ (ex = false → m = c ∧ (r = len ∨ r ≤ c)) := by
  unfold cutEnds at h
  cases mx with
  | none =>
    cases mx' with
    | some _ => exact hm.elim
    | none =>
      simp only [cnd_false] at h
      have step : ∀ r0 : Nat, (match (match lo with | none => some 0 | some v => match natOf v with | some l => cnd (Nat.ble l r0) (some l) none | none => none) with | none => none | some l => some (l, r0, c, false)) = some (l, r, m, ex) →
          l ≤ r ∧ r = r0 ∧ m = c ∧ ex = false ∧ ((match lo' with | some v => Instr.sliceBound v r0 .sliceB | none => pure 0 : Sem Nat)).run P w = .ok l w := by
        intro r0 h
        cases lo with
        | none =>
          cases lo' with
          | some _ => exact hl.elim
          | none =>
            simp only [Option.some.injEq, Prod.mk.injEq] at h
            obtain ⟨rfl, rfl, rfl, rfl⟩ := h
            exact ⟨Nat.zero_le _, rfl, rfl, rfl, rfl⟩
        | some x =>
          cases lo' with
          | none => exact hl.elim
          | some y =>
            cases hn : natOf x with
            | none => simp [hn] at h
            | some q =>
              simp only [hn] at h
              cases hb : Nat.ble q r0 with
              | false => simp [hb] at h
              | true =>
                simp only [hb, cnd_true, Option.some.injEq, Prod.mk.injEq] at h
                obtain ⟨rfl, rfl, rfl, rfl⟩ := h
                have := Nat.le_of_ble_eq_true hb
                exact ⟨this, rfl, rfl, rfl, bound_sound hl hn this⟩
      cases hi with
      | none =>
        cases hi' with
        | some _ => exact hh.elim
        | none =>
          obtain ⟨h1, h2, h3, h4, h5⟩ := step len h
          refine ⟨?_, h1, by omega, (fun e => by rw [h4] at e; cases e), fun _ => ⟨h3, .inl h2⟩⟩
          simp only [Instr.sliceBounds, Sem.run_bind, Sem.run_pure, Result.andThen_ok, Option.isSome_none, Bool.false_eq_true, if_false, h4, h2]
          cases lo' with
          | none => simp only [Sem.run_pure] at h5; cases h5; simp only [Sem.run_bind, Result.andThen_ok, Sem.run_pure]
          | some y => simp only at h5; simp only [Sem.run_bind, h5, Result.andThen_ok, Sem.run_pure]
      | some x =>
        cases hi' with
        | none => exact hh.elim
        | some y =>
          cases hn : natOf x with
          | none => simp [hn] at h
          | some q =>
            simp only [hn] at h
            cases hb : Nat.ble q c with
            | false => simp [hb] at h
            | true =>
              simp only [hb, cnd_true] at h
              have hq := Nat.le_of_ble_eq_true hb
              obtain ⟨h1, h2, h3, h4, h5⟩ := step q h
              refine ⟨?_, h1, by omega, (fun e => by rw [h4] at e; cases e), fun _ => ⟨h3, .inr (by omega)⟩⟩
              have hbd : ∀ code, (Instr.sliceBound y c' code).run P w = .ok q w := fun code => bound_sound hh hn (by omega)
              simp only [Instr.sliceBounds, Sem.run_bind, Sem.run_pure, Result.andThen_ok, Option.isSome_none, Bool.false_eq_true, if_false, h4, h2]
              rw [hbd]
              simp only [Result.andThen_ok]
              cases lo' with
              | none => simp only [Sem.run_pure] at h5; cases h5; simp only [Sem.run_bind, Result.andThen_ok, Sem.run_pure]
              | some y => simp only at h5; simp only [Sem.run_bind, h5, Result.andThen_ok, Sem.run_pure]
  | some mxv =>
    cases mx' with
    | none => exact hm.elim
    | some mxv' =>
      cases hnm : natOf mxv with
      | none => simp [hnm] at h
      | some qm =>
        simp only [hnm] at h
        cases hbm : Nat.ble qm c with
        | false => simp [hbm] at h
        | true =>
          simp only [hbm, cnd_true] at h
          have hqm := Nat.le_of_ble_eq_true hbm
          cases hi with
          | none => simp at h
          | some x =>
            cases hi' with
            | none => exact hh.elim
            | some y =>
              cases hn : natOf x with
              | none => simp [hn] at h
              | some q =>
                simp only [hn] at h
                cases hb : Nat.ble q qm with
                | false => simp [hb] at h
                | true =>
                  simp only [hb, cnd_true] at h
                  have hq := Nat.le_of_ble_eq_true hb
                  have hbd : ∀ code, (Instr.sliceBound y qm code).run P w = .ok q w := fun code => bound_sound hh hn hq
                  have hbd' : ∀ code, (Instr.sliceBound mxv' c' code).run P w = .ok qm w := fun code => bound_sound hm hnm (by omega)
                  cases lo with
                  | none =>
                    cases lo' with
                    | some _ => exact hl.elim
                    | none =>
                      simp only [Option.some.injEq, Prod.mk.injEq] at h
                      obtain ⟨rfl, rfl, rfl, rfl⟩ := h
                      refine ⟨?_, Nat.zero_le _, hqm, fun _ => hq, fun e => by cases e⟩
                      simp only [Instr.sliceBounds, Sem.run_bind, hbd', Result.andThen_ok, hbd, Sem.run_pure, if_true]
                  | some xl =>
                    cases lo' with
                    | none => exact hl.elim
                    | some yl =>
                      cases hnl : natOf xl with
                      | none => simp [hnl] at h
                      | some ql =>
                        simp only [hnl] at h
                        cases hbl : Nat.ble ql q with
                        | false => simp [hbl] at h
                        | true =>
                          simp only [hbl, cnd_true, Option.some.injEq, Prod.mk.injEq] at h
                          obtain ⟨rfl, rfl, rfl, rfl⟩ := h
                          have hql := Nat.le_of_ble_eq_true hbl
                          have hbl' : ∀ code, (Instr.sliceBound yl q code).run P w = .ok ql w := fun code => bound_sound hl hnl hql
                          refine ⟨?_, hql, hqm, fun _ => hq, fun e => by cases e⟩
                          simp only [Instr.sliceBounds, Sem.run_bind, hbd', Result.andThen_ok, hbd, hbl', Sem.run_pure, if_true]

theorem str_size (s : ByteArray) : s.data.toList.length = s.size := by rw [Array.length_toList]; rfl
theorem op_slice_str {t : TypeId} {s : ByteArray} {u : Value} {lo hi lo' hi' : Option Value} {l r m : Nat} {ex : Bool} (hu : VR M (.string s) u) (ht : P.underlying t = some .string) (hl : OR M lo lo') (hh : OR M hi hi')
    (hc : cutEnds s.data.toList.length s.data.toList.length lo hi none = some (l, r, m, ex)) : ∃ v', (Instr.sliceAt t u lo' hi' none).run P w = .ok v' w ∧ VR M (.string ⟨⟨(s.data.toList.drop l).take (r - l)⟩⟩) v' := by
  rw [str_inv hu]
  obtain ⟨h1, h2, h3, h4, h5⟩ := cut_sound (P := P) (w := w) (isSlice := false) (c' := s.data.toList.length) (mx' := none) (Nat.le_refl _) hl hh (show OR M none none from trivial) hc
  have e : (s.extract l r) = ⟨⟨(s.data.toList.drop l).take (r - l)⟩⟩ := by
    apply ByteArray.ext
    rw [ByteArray.data_extract]
    apply Array.toList_inj.1
    rw [Array.toList_extract, List.extract_eq_take_drop]
  refine ⟨_, ?_, .str _⟩
  rw [str_size] at h1
  simp only [Instr.sliceAt, Instr.slice, Sem.run_bind, run_underlying ht, Result.andThen_ok, Option.isSome_none, Bool.false_eq_true, if_false, h1, Sem.run_pure, e]
theorem op_slice_nil {t e : TypeId} {n c2 : Nat} {u : Value} {lo hi mx lo' hi' mx' : Option Value} {l r m sz : Nat} {ex : Bool} (hu : VR M (.slice none n c2) u) (ht : P.underlying t = some (.slice e)) (hs : sizeT P e = some sz) (hl : OR M lo lo') (hh : OR M hi hi') (hm : OR M mx mx')
    (hc : cutEnds n (c2 / 2) lo hi mx = some (l, r, m, ex)) : ∃ v', (Instr.sliceAt t u lo' hi' mx').run P w = .ok v' w ∧ VR M (.slice none (r - l) (2 * (m - l) + 1)) v' := by
  obtain ⟨c, hc2, rfl⟩ := slice_nil_inv hu
  obtain ⟨h1, h2, h3, h4, h5⟩ := cut_sound (P := P) (w := w) (isSlice := true) (c' := c2 / 2) (Nat.le_refl _) hl hh hm hc
  have e2 : c2 / 2 = c := by omega
  rw [e2] at h1 h5
  have e3 : (if ex = true then m else c) = m := by
    cases ex with
    | true => rfl
    | false => simp only [Bool.false_eq_true, if_false]; exact (h5 rfl).1.symm
  rw [e3] at h1
  refine ⟨_, ?_, .snil _ _⟩
  simp only [Instr.sliceAt, Instr.slice, Sem.run_bind, run_underlying ht, Result.andThen_ok, h1, run_sizeOf hs, Sem.run_pure, Option.map_none, ite_self]
theorem op_slice {t e : TypeId} {b o n c2 : Nat} {u : Value} {lo hi mx lo' hi' mx' : Option Value} {l r m sz : Nat} {ex : Bool} (hu : VR M (.slice (some ⟨b, o, none⟩) n c2) u) (ht : P.underlying t = some (.slice e)) (hs : sizeT P e = some sz) (hl : OR M lo lo') (hh : OR M hi hi') (hm : OR M mx mx')
    (hc : cutEnds n (c2 / 2) lo hi mx = some (l, r, m, ex)) : ∃ v', (Instr.sliceAt t u lo' hi' mx').run P w = .ok v' w ∧
      ((ex = true ∨ c2 % 2 = 1) → VR M (.slice (some ⟨b, cnd (Nat.beq m l) o (o + l * sz), none⟩) (r - l) (2 * (m - l) + 1)) v') ∧
      ((ex = false ∧ c2 % 2 = 0) → (∀ ll, M[b]? = some ll → ll.es = sz) → VR M (.slice (some ⟨b, o + l * sz, none⟩) (r - l) (2 * (m - l))) v') := by
  obtain ⟨ll, x, c', hll, rfl, k1, k2, k3, k4, k5⟩ := slice_inv hu
  obtain ⟨h1, h2, h3, h4, h5⟩ := cut_sound (P := P) (w := w) (isSlice := true) (c' := c') k2 hl hh hm hc
  refine ⟨.slice (some (if (if ex = true then m else c') = l then ⟨ll.blk, x, none⟩ else ⟨ll.blk, x + l * sz, none⟩)) (r - l) ((if ex = true then m else c') - l), ?_, ?_, ?_⟩
  · simp only [Instr.sliceAt, Instr.slice, Sem.run_bind, run_underlying ht, Result.andThen_ok, h1, run_sizeOf hs, Sem.run_pure, Option.map_some, addr_add]
    generalize (if ex = true then m else c') = q
    by_cases hq : q = l <;> simp [hq]
  · intro hex
    have e3 : (if ex = true then m else c') = m := by
      cases ex with
      | true => rfl
      | false =>
        simp only [Bool.false_eq_true, if_false]
        have := (h5 rfl).1
        have := k4 (by rcases hex with q | q; cases q; exact q)
        omega
    rw [e3]
    have hrm : r ≤ m ∨ (r = n ∧ m = c2 / 2) := by
      cases ex with
      | true => exact .inl (h4 rfl)
      | false => obtain ⟨q1, q2⟩ := h5 rfl; rcases q2 with q2 | q2 <;> omega
    by_cases e : m = l
    · rw [if_pos e, show Nat.beq m l = true from by rw [e]; exact Nat.beq_refl l, cnd_true]
      exact .sx _ _ _ _ _ ll hll (by omega) (fun hc => by omega)
    · rw [if_neg e, show Nat.beq m l = false from by rw [Nat.beq_eq_false_iff_ne']; exact e, cnd_false]
      exact .sx _ _ _ _ _ ll hll (by omega) (fun hc => by
        have : c' ≠ 0 := by omega
        rw [k3 this]; omega)
  · intro ⟨hex, he0⟩ hes
    subst hex
    have hes' := hes ll hll
    obtain ⟨q1, q2⟩ := h5 rfl
    simp only [Bool.false_eq_true, if_false]
    by_cases e : c' = l
    · rw [if_pos e]
      refine .sg _ _ _ _ _ _ ll hll (by omega) (by rcases q2 with q | q <;> omega) (fun hc => by omega)
    · rw [if_neg e]
      refine .sg _ _ _ _ _ _ ll hll (by omega) (by rcases q2 with q | q <;> omega) (fun hc => ?_)
      have hc0 : c' ≠ 0 := by omega
      have h8 := k5 he0 hc0
      have h9 := k3 hc0
      refine ⟨by omega, ?_⟩
      rw [hes'] at h8 ⊢
      have : x + l * sz + (c' - l) * sz = x + c' * sz := by
        rw [Nat.add_assoc, ← Nat.add_mul, show l + (c' - l) = c' by omega]
      omega
theorem op_slice_parr {t arr e : TypeId} {b o n : Nat} {u : Value} {lo hi mx lo' hi' mx' : Option Value} {l r m sz : Nat} {ex : Bool} (hu : VR M (.pointer (some ⟨b, o, none⟩)) u) (ht : P.underlying t = some (.pointer arr)) (ha : P.underlying arr = some (.array n e)) (hs : sizeT P e = some sz) (hl : OR M lo lo') (hh : OR M hi hi') (hm : OR M mx mx')
    (hc : cutEnds n n lo hi mx = some (l, r, m, ex)) : ∃ v', (Instr.sliceAt t u lo' hi' mx').run P w = .ok v' w ∧ VR M (.slice (some ⟨b, cnd (Nat.beq m l) o (o + l * sz), none⟩) (r - l) (2 * (m - l) + 1)) v' := by
  obtain ⟨ll, hll, rfl⟩ := ptr_inv hu
  obtain ⟨h1, h2, h3, h4, h5⟩ := cut_sound (P := P) (w := w) (isSlice := false) (c' := n) (Nat.le_refl _) hl hh hm hc
  have e3 : (if ex = true then m else n) = m := by
    cases ex with
    | true => rfl
    | false => simp only [Bool.false_eq_true, if_false]; exact (h5 rfl).1.symm
  rw [e3] at h1
  have hrm : r ≤ m := by
    cases ex with
    | true => exact h4 rfl
    | false => obtain ⟨q1, q2⟩ := h5 rfl; rcases q2 with q | q <;> omega
  refine ⟨.slice (some (if m = l then ⟨ll.blk, ll.sh + o, none⟩ else ⟨ll.blk, ll.sh + o + l * sz, none⟩)) (r - l) (m - l), ?_, ?_⟩
  · simp only [Instr.sliceAt, Instr.slice, asAddr, Sem.run_bind, Sem.run_pure, run_underlying ht, run_underlying ha, Result.andThen_ok, h1, run_sizeOf hs, addr_add]
  · by_cases e : m = l
    · rw [if_pos e, show Nat.beq m l = true from by rw [e]; exact Nat.beq_refl l, cnd_true]
      exact .sx _ _ _ _ _ ll hll (by omega) (fun hc => by omega)
    · rw [if_neg e, show Nat.beq m l = false from by rw [Nat.beq_eq_false_iff_ne']; exact e, cnd_false]
      exact .sx _ _ _ _ _ ll hll (by omega) (fun hc => by omega)
theorem op_slice_arr {t e : TypeId} {b o n : Nat} {u : Value} {lo hi mx lo' hi' mx' : Option Value} {l r m sz : Nat} {ex : Bool} (hu : VR M (.pointer (some ⟨b, o, none⟩)) u) (ht : P.underlying t = some (.array n e)) (hs : sizeT P e = some sz) (hl : OR M lo lo') (hh : OR M hi hi') (hm : OR M mx mx')
    (hc : cutEnds n n lo hi mx = some (l, r, m, ex)) : ∃ v', (Instr.sliceAt t u lo' hi' mx').run P w = .ok v' w ∧ VR M (.slice (some ⟨b, cnd (Nat.beq m l) o (o + l * sz), none⟩) (r - l) (2 * (m - l) + 1)) v' := by
  obtain ⟨ll, hll, rfl⟩ := ptr_inv hu
  obtain ⟨h1, h2, h3, h4, h5⟩ := cut_sound (P := P) (w := w) (isSlice := false) (c' := n) (Nat.le_refl _) hl hh hm hc
  have e3 : (if ex = true then m else n) = m := by
    cases ex with
    | true => rfl
    | false => simp only [Bool.false_eq_true, if_false]; exact (h5 rfl).1.symm
  rw [e3] at h1
  have hrm : r ≤ m := by
    cases ex with
    | true => exact h4 rfl
    | false => obtain ⟨q1, q2⟩ := h5 rfl; rcases q2 with q | q <;> omega
  refine ⟨.slice (some (if m = l then ⟨ll.blk, ll.sh + o, none⟩ else ⟨ll.blk, ll.sh + o + l * sz, none⟩)) (r - l) (m - l), ?_, ?_⟩
  · simp only [Instr.sliceAt, Instr.sureAddr, Sem.run_bind, Sem.run_pure, run_underlying ht, Result.andThen_ok, h1, run_sizeOf hs, addr_add]
  · by_cases e : m = l
    · rw [if_pos e, show Nat.beq m l = true from by rw [e]; exact Nat.beq_refl l, cnd_true]
      exact .sx _ _ _ _ _ ll hll (by omega) (fun hc => by omega)
    · rw [if_neg e, show Nat.beq m l = false from by rw [Nat.beq_eq_false_iff_ne']; exact e, cnd_false]
      exact .sx _ _ _ _ _ ll hll (by omega) (fun hc => by omega)

/-! ### maps -/
theorem find_sound {k : IntKind} {n : Int} {kd : IntKind} : ∀ {es : List MapEntry} {ce : List MapEntry} {i : Nat} {r : Option (Nat × Value)}, ER M es ce → findE k n es i = some r →
    ∃ r', Instr.findNow (.int kd) (.int k n) ce i = some r' ∧ (match r, r' with
      | none, none => True
      | some (j, v), some (j', v') => j' = j ∧ VR M v v' ∧ ∃ q, j = i + q ∧ ∃ e, es[q]? = some e ∧ e.key = .int k n
      | _, _ => False)
  | [], ce, i, r, he, hf => by
    have : ce = [] := by cases ce with | nil => rfl | cons => have := he.1; simp at this
    subst this
    simp only [findE, Option.some.injEq] at hf
    subst hf
    exact ⟨none, rfl, trivial⟩
  | e :: es, ce, i, r, he, hf => by
    cases ce with
    | nil => have := he.1; simp at this
    | cons d ce =>
      obtain ⟨⟨k2, n2, hk⟩, h2, h3, h4⟩ := he.2 0 e d rfl rfl
      have he' : ER M es ce := ⟨by have := he.1; simpa using this, fun j x y hx hy => he.2 (j + 1) x y (by simpa using hx) (by simpa using hy)⟩
      simp only [findE, hk] at hf
      by_cases ek : k = k2
      · subst ek
        simp only [decide_true, cnd_true] at hf
        by_cases en : n = n2
        · subst en
          simp only [decide_true, cnd_true, Option.some.injEq] at hf
          subst hf
          refine ⟨some (i, d.val), ?_, rfl, h4, 0, rfl, e, rfl, hk⟩
          simp only [Instr.findNow, h2, hk, Instr.sameNow, if_true]
          simp
        · rw [decide_eq_false en, cnd_false] at hf
          obtain ⟨r', h5, h6⟩ := find_sound (kd := kd) he' hf
          refine ⟨r', ?_, ?_⟩
          · simp only [Instr.findNow, h2, hk, Instr.sameNow, if_true]
            have : (n == n2) = false := by simpa using en
            simp only [this]
            exact h5
          · cases r with
            | none => cases r' with
              | none => trivial
              | some _ => exact h6
            | some p => cases r' with
              | none => exact h6
              | some p' =>
                obtain ⟨j, v⟩ := p
                obtain ⟨j', v'⟩ := p'
                obtain ⟨a1, a2, q, a3, e2, a4, a5⟩ := h6
                exact ⟨a1, a2, q + 1, by omega, e2, by simpa using a4, a5⟩
      · rw [decide_eq_false ek, cnd_false] at hf
        cases hf
theorem run_checkKey {kt : TypeId} {kd : IntKind} (hk : P.underlying kt = some (.int kd)) (b : Bool) (n : Nat) (v : Value) : (Instr.checkKey b (n + 1) kt v).run P w = .ok () w := by
  simp only [Instr.checkKey, Sem.run_bind, run_underlying hk, Result.andThen_ok, Sem.run_pure]
theorem run_findKey {kt : TypeId} {kd : IntKind} (hk : P.underlying kt = some (.int kd)) {v : Value} {ce : List MapEntry} {r : Option (Nat × Value)} (h : Instr.findNow (.int kd) v ce 0 = some r) : (Instr.findKey kt v ce).run P w = .ok r w := by
  simp only [Instr.findKey, Sem.run_bind, run_underlying hk, Result.andThen_ok, h, Sem.run_pure]
theorem run_getObj_map {r : Nat} {ce : Array MapEntry} {clock : Nat} (hg : w.heap[r]? = some (.map ce clock)) : (getObj r).run P w = .ok (.map ce clock) w := by
  simp [getObj, Sem.run, hg]
theorem map_at (H : HR M w0 h w) {r : Nat} {l : Loc} {es : List MapEntry} {clock : Nat} (hl : M[r]? = some l) (hg : h.get r = .map es clock) : ¬ w0.kept l.blk ∧ ∃ ce, w.heap[l.blk]? = some (.map ce clock) ∧ ER M es ce.toList := by
  have := H.blk r l hl
  rw [hg] at this
  exact this
theorem op_lookup (H : HR M w0 h w) {t kt et : TypeId} {r : Nat} {q : IntKind} {n : Int} {kd : IntKind} {um uk z : Value} {es : List MapEntry} {clock : Nat} {res : Option (Nat × Value)} (ok : Bool) (hm : VR M (.map (some r)) um) (hk : VR M (.int q n) uk)
    (ht : P.underlying t = some (.map kt et)) (hkt : P.underlying kt = some (.int kd)) (hg : h.get r = .map es clock) (hz : zeroT P et = some z) (hf : findE q n es 0 = some res) :
    ∃ v', (Instr.lookup t um uk ok).run P w = .ok v' w ∧ VR M (match res with | some (_, v) => cnd ok (.tuple #[v, .bool true]) v | none => cnd ok (.tuple #[EV.enc z, .bool false]) (EV.enc z)) v' := by
  obtain ⟨l, hl, rfl⟩ := map_inv hm
  rw [int_inv hk]
  obtain ⟨_, ce, hce, her⟩ := map_at H hl hg
  obtain ⟨r', h1, h2⟩ := find_sound (kd := kd) her hf
  obtain ⟨z1, z2⟩ := run_zero hz w
  have pair : ∀ (x y : Value) (b : Bool), VR M x y → VR M (.tuple #[x, .bool b]) (.tuple #[y, .bool b]) := fun x y b hv => by
    have : LR M [x, .bool b] [y, .bool b] := LR.cons hv (LR.cons (.bool b) (LR.nil M))
    exact .tuple _ _ this.1 this.2
  cases res with
  | none =>
    cases r' with
    | some _ => exact h2.elim
    | none =>
      refine ⟨if ok then .tuple #[z, .bool false] else z, ?_, ?_⟩
      · simp only [Instr.lookup, Sem.run_bind, run_underlying ht, Result.andThen_ok, run_getObj_map hce, Sem.run_pure, run_checkKey hkt, run_findKey hkt h1, z1]
      · cases ok with
        | true => exact pair _ _ false (VR.enc M z2)
        | false => exact VR.enc M z2
  | some p =>
    cases r' with
    | none => exact h2.elim
    | some p' =>
      obtain ⟨j, v⟩ := p
      obtain ⟨j', v'⟩ := p'
      refine ⟨if ok then .tuple #[v', .bool true] else v', ?_, ?_⟩
      · simp only [Instr.lookup, Sem.run_bind, run_underlying ht, Result.andThen_ok, run_getObj_map hce, Sem.run_pure, run_checkKey hkt, run_findKey hkt h1]
      · cases ok with
        | true => exact pair _ _ true h2.2.1
        | false => exact h2.2.1
theorem run_setObj_map {r : Nat} {ce : Array MapEntry} {clock : Nat} (hg : w.heap[r]? = some (.map ce clock)) (o : Obj) : (setObj r o).run P w = .ok () { w with heap := w.heap.setIfInBounds r o } := by
  simp [setObj, Sem.run, hg]
theorem heap_put_self (w : World) (r : Nat) (o : Obj) (hr : r < w.heap.size) : ({ w with heap := w.heap.setIfInBounds r o } : World).heap[r]? = some o := by
  simp [hr]
theorem heap_put_other (w : World) (r k : Nat) (o : Obj) (hr : k ≠ r) : ({ w with heap := w.heap.setIfInBounds r o } : World).heap[k]? = w.heap[k]? := by
  show (w.heap.setIfInBounds r o)[k]? = _
  rw [Array.getElem?_setIfInBounds_ne (fun e => hr e.symm)]
theorem HR.put (H : HR M w0 h w) {r : Nat} {l : Loc} {x : Blk} {o : Obj} (hl : M[r]? = some l) (hr : own (h.get r) = true) (hx : BR M w0 { w with heap := w.heap.setIfInBounds l.blk o } l x) :
    HR M w0 (h.set r x) { w with heap := w.heap.setIfInBounds l.blk o } := by
  have hge := (H.blk r l hl).ge hr
  have hlt := (H.blk r l hl).lt (own_dead hr)
  refine H.turn r x ?_ (fun b l' hne h1 h2 => heap_put_other w l.blk l'.blk o ?_) (H.lt_next (own_dead hr)) (fun l' hl' => by rw [hl] at hl'; cases hl'; exact hx) (fun _ => hr)
  · refine H.bel.trans ⟨rfl, rfl, rfl, by simp, fun k hk => heap_put_other w l.blk k o (fun e => hge (e ▸ hk))⟩
  · intro e
    cases ho : own (h.get b) with
    | true => exact H.inj b r l' l h1 hl ho hr hne e
    | false =>
      have hb := H.blk b l' h1
      cases hxb : h.get b with
      | dead => exact h2 hxb
      | ro c => rw [hxb] at hb; exact Base.ro_ne hb.1 hge e
      | _ => rw [hxb] at ho; cases ho
theorem op_mapUpdate (H : HR M w0 h w) {t kt et : TypeId} {r : Nat} {q : IntKind} {n : Int} {kd : IntKind} {um uk v u : Value} {es : List MapEntry} {clock : Nat} {res : Option (Nat × Value)} (hm : VR M (.map (some r)) um) (hk : VR M (.int q n) uk) (hv : VR M v u)
    (ht : P.underlying t = some (.map kt et)) (hkt : P.underlying kt = some (.int kd)) (hg : h.get r = .map es clock) (hf : findE q n es 0 = some res) :
    ∃ w', (Instr.mapUpdate t um uk u).run P w = .ok () w' ∧ HR M w0 (match res with
      | some (i, _) => h.set r (.map (es.modify i fun e => { e with val := v }) clock)
      | none => h.set r (.map (es ++ [{ key := .int q n, val := v, born := clock }]) (clock + 1))) w' := by
  obtain ⟨l, hl, rfl⟩ := map_inv hm
  rw [int_inv hk]
  obtain ⟨hge, ce, hce, her⟩ := map_at H hl hg
  have hlt : l.blk < w.heap.size := (Array.getElem?_eq_some_iff.1 hce).1
  obtain ⟨r', h1, h2⟩ := find_sound (kd := kd) her hf
  cases res with
  | none =>
    cases r' with
    | some _ => exact h2.elim
    | none =>
      refine ⟨{ w with heap := w.heap.setIfInBounds l.blk (.map (ce.push { key := .int q n, val := u, born := clock }) (clock + 1)) }, ?_, H.put hl (by rw [hg]; rfl) ⟨hge, _, heap_put_self w _ _ hlt, ?_⟩⟩
      · simp only [Instr.mapUpdate, Sem.run_bind, run_underlying ht, Result.andThen_ok, run_getObj_map hce, run_checkKey hkt, run_findKey hkt h1, run_setObj_map hce]
      · rw [Array.toList_push]
        refine ⟨by simp [her.1], fun i x y hx hy => ?_⟩
        by_cases c : i < es.length
        · rw [List.getElem?_append_left c] at hx
          rw [List.getElem?_append_left (by rw [← her.1]; exact c)] at hy
          exact her.2 i x y hx hy
        · have e : i = es.length := by
            have := (List.getElem?_eq_some_iff.1 hx).1
            simp at this; omega
          subst e
          rw [List.getElem?_append_right (Nat.le_refl _), Nat.sub_self] at hx
          rw [her.1, List.getElem?_append_right (Nat.le_refl _), Nat.sub_self] at hy
          simp at hx hy
          subst hx; subst hy
          exact ⟨⟨q, n, rfl⟩, rfl, rfl, hv⟩
  | some p =>
    cases r' with
    | none => exact h2.elim
    | some p' =>
      obtain ⟨j, v1⟩ := p
      obtain ⟨j', v1'⟩ := p'
      obtain ⟨rfl, _, q2, rfl, e, he1, he2⟩ := h2
      simp only [Nat.zero_add] at h1 ⊢
      have hq : q2 < es.length := (List.getElem?_eq_some_iff.1 he1).1
      have hd : ce[q2]? = some (ce.toList[q2]'(by rw [← her.1]; exact hq)) := by
        rw [← Array.getElem?_toList]; exact List.getElem?_eq_getElem _
      have hd2 := her.2 q2 e _ he1 (by rw [Array.getElem?_toList]; exact hd)
      have hkey : (ce.toList[q2]'(by rw [← her.1]; exact hq)).key = .int q n := by rw [hd2.2.1, he2]
      refine ⟨{ w with heap := w.heap.setIfInBounds l.blk (.map (ce.modify q2 fun e => { e with key := .int q n, val := u }) clock) }, ?_, H.put hl (by rw [hg]; rfl) ⟨hge, _, heap_put_self w _ _ hlt, ?_⟩⟩
      · simp only [Instr.mapUpdate, Sem.run_bind, run_underlying ht, Result.andThen_ok, run_getObj_map hce, run_checkKey hkt, run_findKey hkt h1, hd, Option.map_some, Option.getD_some, hkey]
        simp only [Instr.keyThatStays, Instr.sameBits, beq_self_eq_true, Bool.and_self, if_true, Sem.run_pure, Result.andThen_ok, run_setObj_map hce]
      · refine ⟨by simp [her.1], fun i x y hx hy => ?_⟩
        rw [List.getElem?_modify] at hx
        rw [Array.getElem?_toList, Array.getElem?_modify] at hy
        by_cases ei : q2 = i
        · subst ei
          rw [if_pos rfl] at hy
          simp only [he1, if_true, Option.map_eq_map, Option.map_some, Option.some.injEq, hd] at hx hy
          subst hx; subst hy
          exact ⟨⟨q, n, he2⟩, he2.symm, hd2.2.2.1, hv⟩
        · rw [if_neg ei] at hy
          cases hxx : es[i]? with
          | none => rw [hxx] at hx; simp at hx
          | some x0 =>
            rw [hxx] at hx
            simp only [ei, if_false, Option.map_eq_map, Option.map_some, Option.some.injEq, id] at hx
            subst hx
            exact her.2 i _ y hxx (by rw [Array.getElem?_toList]; exact hy)

theorem op_mapEntry (H : HR M w0 h w) {t kt et : TypeId} {r : Nat} {q : IntKind} {n : Int} {kd : IntKind} {um uk z : Value} {es : List MapEntry} {clock : Nat} {res : Option (Nat × Value)} (hm : VR M (.map (some r)) um) (hk : VR M (.int q n) uk)
    (ht : P.underlying t = some (.map kt et)) (hkt : P.underlying kt = some (.int kd)) (hg : h.get r = .map es clock) (hz : zeroT P et = some z) {v : Value} {h' : Heap}
    (he : (match res with
      | some (i, v) => ob (es[i]?) fun e => some (.tuple #[v, goInt e.born], h.set r (.map es clock))
      | none => some (.tuple #[EV.enc z, goInt clock], h.set r (.map (es ++ [{ key := .int q n, val := EV.enc z, born := clock }]) (clock + 1)))) = some (v, h')) (hf : findE q n es 0 = some res) :
    ∃ w' v', (Instr.mapEntry t um uk).run P w = .ok v' w' ∧ HR M w0 h' w' ∧ VR M v v' := by
  obtain ⟨l, hl, rfl⟩ := map_inv hm
  rw [int_inv hk]
  obtain ⟨hge, ce, hce, her⟩ := map_at H hl hg
  have hlt : l.blk < w.heap.size := (Array.getElem?_eq_some_iff.1 hce).1
  obtain ⟨r', h1, h2⟩ := find_sound (kd := kd) her hf
  obtain ⟨z1, z2⟩ := run_zero hz w
  have pair : ∀ (x y : Value) (b : Int), VR M x y → VR M (.tuple #[x, goInt b]) (.tuple #[y, goInt b]) := fun x y b hv => by
    have : LR M [x, goInt b] [y, goInt b] := LR.cons hv (LR.cons (.int .i64 b) (LR.nil M))
    exact .tuple _ _ this.1 this.2
  cases res with
  | none =>
    cases r' with
    | some _ => exact h2.elim
    | none =>
      cases he
      refine ⟨{ w with heap := w.heap.setIfInBounds l.blk (.map (ce.push { key := .int q n, val := z, born := clock }) (clock + 1)) }, .tuple #[z, goInt clock], ?_, H.put hl (by rw [hg]; rfl) ⟨hge, _, heap_put_self w _ _ hlt, ?_⟩, pair _ _ _ (VR.enc M z2)⟩
      · simp only [Instr.mapEntry, Sem.run_bind, run_underlying ht, Result.andThen_ok, run_getObj_map hce, run_checkKey hkt, run_findKey hkt h1, z1, run_setObj_map hce, Sem.run_pure]
      · rw [Array.toList_push]
        refine ⟨by simp [her.1], fun i x y hx hy => ?_⟩
        by_cases c : i < es.length
        · rw [List.getElem?_append_left c] at hx
          rw [List.getElem?_append_left (by rw [← her.1]; exact c)] at hy
          exact her.2 i x y hx hy
        · have e : i = es.length := by
            have := (List.getElem?_eq_some_iff.1 hx).1
            simp at this; omega
          subst e
          rw [List.getElem?_append_right (Nat.le_refl _), Nat.sub_self] at hx
          rw [her.1, List.getElem?_append_right (Nat.le_refl _), Nat.sub_self] at hy
          simp at hx hy
          subst hx; subst hy
          exact ⟨⟨q, n, rfl⟩, rfl, rfl, VR.enc M z2⟩
  | some p =>
    cases r' with
    | none => exact h2.elim
    | some p' =>
      obtain ⟨j, v1⟩ := p
      obtain ⟨j', v1'⟩ := p'
      obtain ⟨rfl, hv1, q2, rfl, e, he1, he2⟩ := h2
      simp only [Nat.zero_add] at h1 he
      have hq : q2 < es.length := (List.getElem?_eq_some_iff.1 he1).1
      have hd : ce[q2]? = some (ce.toList[q2]'(by rw [← her.1]; exact hq)) := by
        rw [← Array.getElem?_toList]; exact List.getElem?_eq_getElem _
      have hd2 := her.2 q2 e _ he1 (by rw [Array.getElem?_toList]; exact hd)
      have hkey : (ce.toList[q2]'(by rw [← her.1]; exact hq)).key = .int q n := by rw [hd2.2.1, he2]
      rw [he1] at he
      cases he
      have hmod : (ce.modify q2 fun e => { e with key := .int q n }) = ce := by
        apply Array.ext (by simp)
        intro i hi1 hi2
        rw [Array.getElem_modify]
        split
        · rename_i ei
          subst ei
          have : ce[q2] = ce.toList[q2]'(by rw [← her.1]; exact hq) := by simp
          rw [this, ← hkey]
        · rfl
      refine ⟨{ w with heap := w.heap.setIfInBounds l.blk (.map ce clock) }, .tuple #[v1', goInt e.born], ?_, H.put hl (by rw [hg]; rfl) ⟨hge, _, heap_put_self w _ _ hlt, her⟩, pair _ _ _ hv1⟩
      simp only [Instr.mapEntry, Sem.run_bind, run_underlying ht, Result.andThen_ok, run_getObj_map hce, run_checkKey hkt, run_findKey hkt h1, hd, Option.map_some, Option.getD_some, hkey]
      simp only [Instr.keyThatStays, Instr.sameBits, beq_self_eq_true, Bool.and_self, if_true, Sem.run_pure, Result.andThen_ok, hmod, Sem.run_bind, run_setObj_map hce, hd2.2.2.1]
theorem findB_sound {b : Int} : ∀ {es ce : List MapEntry} {i j : Nat}, ER M es ce → findB b es i = some j → ∃ q, j = i + q ∧ ce.findIdx? (fun e => (e.born : Int) == b) = some q
  | [], ce, i, j, he, hf => by cases hf
  | e :: es, [], i, j, he, hf => by have := he.1; simp at this
  | e :: es, d :: ce, i, j, he, hf => by
    have hb : d.born = e.born := (he.2 0 e d rfl rfl).2.2.1
    have he' : ER M es ce := ⟨by have := he.1; simpa using this, fun j x y hx hy => he.2 (j + 1) x y (by simpa using hx) (by simpa using hy)⟩
    simp only [findB] at hf
    rw [List.findIdx?_cons, hb]
    by_cases c : (e.born : Int) = b
    · rw [decide_eq_true c, cnd_true] at hf
      cases hf
      exact ⟨0, rfl, by simp [c]⟩
    · rw [decide_eq_false c, cnd_false] at hf
      obtain ⟨q, q1, q2⟩ := findB_sound he' hf
      refine ⟨q + 1, by omega, ?_⟩
      rw [if_neg (by simpa using c), q2]
      rfl
theorem op_entryStore (H : HR M w0 h w) (t : TypeId) {r : Nat} {k : IntKind} {b : Int} {um us v u : Value} {es : List MapEntry} {clock i : Nat} (hm : VR M (.map (some r)) um) (hs : VR M (.int k b) us) (hv : VR M v u)
    (hg : h.get r = .map es clock) (hf : findB b es 0 = some i) :
    ∃ w', (Instr.entryStore t um us u).run P w = .ok () w' ∧ HR M w0 (h.set r (.map (es.modify i fun e => { e with val := v }) clock)) w' := by
  obtain ⟨l, hl, rfl⟩ := map_inv hm
  rw [int_inv hs]
  obtain ⟨hge, ce, hce, her⟩ := map_at H hl hg
  have hlt : l.blk < w.heap.size := (Array.getElem?_eq_some_iff.1 hce).1
  obtain ⟨q, rfl, h1⟩ := findB_sound her hf
  rw [Nat.zero_add]
  have h1' : ce.findIdx? (fun e => (e.born : Int) == b) = some q := by rw [← h1]; simpa using (List.findIdx?_toArray (l := ce.toList) (p := fun e : MapEntry => (e.born : Int) == b))
  refine ⟨{ w with heap := w.heap.setIfInBounds l.blk (.map (ce.modify q fun e => { e with val := u }) clock) }, ?_, H.put hl (by rw [hg]; rfl) ⟨hge, _, heap_put_self w _ _ hlt, ?_⟩⟩
  · simp only [Instr.entryStore, Sem.run_bind, Result.andThen_ok, run_getObj_map hce, asInt, asIntOf, Sem.run_pure, h1', run_setObj_map hce]
  · refine ⟨by simp [her.1], fun i x y hx hy => ?_⟩
    rw [List.getElem?_modify] at hx
    rw [Array.getElem?_toList, Array.getElem?_modify] at hy
    cases hxx : es[i]? with
    | none => rw [hxx] at hx; simp at hx
    | some x0 =>
      have hyy : ∃ y0, ce[i]? = some y0 := by
        have : i < ce.toList.length := by rw [← her.1]; exact (List.getElem?_eq_some_iff.1 hxx).1
        exact ⟨ce[i]'(by simpa using this), Array.getElem?_eq_getElem _⟩
      obtain ⟨y0, hyy⟩ := hyy
      have h0 := her.2 i x0 y0 hxx (by rw [Array.getElem?_toList]; exact hyy)
      by_cases ei : q = i
      · subst ei
        rw [if_pos rfl] at hy
        simp only [hxx, hyy, if_true, Option.map_eq_map, Option.map_some, Option.some.injEq] at hx hy
        subst hx; subst hy
        exact ⟨h0.1, h0.2.1, h0.2.2.1, hv⟩
      · rw [if_neg ei] at hy
        rw [hxx] at hx
        rw [hyy] at hy
        simp only [ei, if_false, Option.map_eq_map, Option.map_some, Option.some.injEq, id] at hx hy
        subst hx; subst hy
        exact h0

/-! ### what is made -/
theorem op_makeMap (H : HR M w0 h w) (t : TypeId) : ∃ N w' v', (Instr.makeMap t none).run P w = .ok v' w' ∧ HR (M ++ N) w0 (h.push (.map [] 0)) w' ∧ VR (M ++ N) (.map (some h.next)) v' :=
  ⟨[⟨w.heap.size, 0, 0, 0⟩], w.alloc (.map #[] 0), .map (some w.heap.size), rfl, H.alloc _ ⟨w.heap.size, 0, 0, 0⟩ _ rfl ⟨H.bel.fresh (Nat.le_refl _), #[], heap_new _ _, rfl, fun i x y h => by simp at h⟩, .map _ ⟨w.heap.size, 0, 0, 0⟩ (get_new M _ _ H.len)⟩
theorem op_makeSlice (H : HR M w0 h w) {t e : TypeId} {kl kc : IntKind} {l c : Int} {ul uc z : Value} {i : TypeInfo} (hl : VR M (.int kl l) ul) (hc : VR M (.int kc c) uc) (hu : P.underlying t = some (.slice e)) (hi : P.info? e = some i) (hz : zeroT P e = some z)
    (h0 : 0 ≤ l) (h1 : l ≤ c) (h2 : c.toNat * i.bytes ≤ 1099511627776) (h3 : c.toNat ≤ 1099511627776) (hn : (EV.cellsL z).length = i.size) (h5 : 1 ≤ i.size) :
    ∃ N w' v', (Instr.makeSlice t ul uc).run P w = .ok v' w' ∧ HR (M ++ N) w0 (h.push (.cells (EV.zeroRow (EV.cellsL (EV.enc z)) c.toNat) i.size)) w' ∧ VR (M ++ N) (.slice (some ⟨h.next, 0, none⟩) l.toNat (2 * c.toNat + 1)) v' := by
  rw [int_inv hl, int_inv hc]
  obtain ⟨r1, r2⟩ := run_zero hz w
  have hs : sizeT P e = some i.size := by unfold sizeT; rw [hi]
  have hrow := zeroRow_LR (M := M) r2 c.toNat i.size hn h5
  have wl : IntKind.i64.wrap l = l := by rw [IntKind.wrap_i64]; omega
  have wc : IntKind.i64.wrap c = c := by rw [IntKind.wrap_i64]; omega
  have hcn : (c.toNat : Int) = c := by omega
  have hbig : ¬ ((i.bytes : Int) * c > 2 ^ 48) := by
    rw [← hcn, ← Int.natCast_mul, Nat.mul_comm]
    intro hgt
    have h6 : ((c.toNat * i.bytes : Nat) : Int) ≤ ((1099511627776 : Nat) : Int) := Int.ofNat_le.2 h2
    generalize ((c.toNat * i.bytes : Nat) : Int) = y at h6 hgt
    omega
  refine ⟨[⟨w.heap.size, 0, ((Array.range (c.toNat * i.size)).map (z.cells[· % z.cells.size]!)).size, i.size⟩], _, .slice (some ⟨w.heap.size, 0 + 0, none⟩) l.toNat c.toNat, ?_, H.alloc_row _ _ _ e hrow, .sx _ _ _ _ _ _ (get_new M _ _ H.len) (by omega) (fun _ => rfl)⟩
  have hcond : ((decide (c < 0) || decide ((i.bytes : Int) * c > 2 ^ 48)) || decide (l < 0) || decide (l > c)) = false := by
    rw [decide_eq_false (show ¬ c < 0 by omega), decide_eq_false hbig, decide_eq_false (show ¬ l < 0 by omega), decide_eq_false (show ¬ l > c by omega)]
    rfl
  simp only [Instr.makeSlice, asInt, asIntOf, Sem.run_bind, run_underlying hu, Result.andThen_ok, Sem.run_pure, run_typeInfo hi, wl, wc, hcond, Bool.false_eq_true, if_false, run_askRoom, run_sizeOf hs]
  by_cases hz0 : c.toNat * i.size = 0
  · have e0 : ∀ q : Array Value, (Array.range 0).map (fun x => q[x % q.size]!) = #[] := fun q => by simp
    simp only [hz0, if_true, Sem.run_bind, Sem.run_pure, Result.andThen_ok, e0, run_newRow]
  · simp only [hz0, if_false, Sem.run_bind, r1, Result.andThen_ok, Sem.run_pure, run_newRow]
theorem op_makeFunc (ha : FR M nn tm a.tmps) {f : FuncId} {x c : Array Operand} {vx vc : List Value} (hx : opnds tm x.toList = some vx) (hc : opnds tm c.toList = some vc) :
    ∃ v', (Instr.makeFunc (.func f) (x.map a.eval) (c.map a.eval)).run P w = .ok v' w ∧ VR M (.func (.func f) ⟨vx⟩ ⟨vc⟩) v' := by
  have h1 := opnds_sound ha hx
  have h2 := opnds_sound ha hc
  refine ⟨_, rfl, .fn f _ _ _ _ ?_ ?_ ?_ ?_⟩
  · rw [Array.toList_map]; exact h1.1
  · rw [Array.toList_map]; exact h2.1
  · rw [Array.toList_map]; exact h1.2
  · rw [Array.toList_map]; exact h2.2
theorem op_makeInterface {t : TypeId} {v u : Value} {d : TypeDesc} (hv : VR M v u) (ht : P.underlying t = some d) (hd : ∀ ms, d ≠ .interface ms) : ∃ v', (Instr.makeInterface t u).run P w = .ok v' w ∧ VR M (.iface t v) v' := by
  refine ⟨.iface t u, ?_, .iface t v u hv⟩
  simp only [Instr.makeInterface, Sem.run_bind, run_underlying ht, Result.andThen_ok]
  cases d <;> first | rfl | exact absurd rfl (hd _)

/-! ### numbers, texts, nil -/
theorem op_pure {s : Sem Value} {v : Value} (h1 : absPure P s = some v) (h2 : flat1 v = true) : ∃ v', s.run P w = .ok v' w ∧ VR M v v' := ⟨v, absPure_run h1 w, VR.of_flat1 M h2⟩
theorem bytes_nums : ∀ {c : List Value} {l : List UInt8}, bytesOfL c = some l → ∃ ns : List Int, c = ns.map (Value.int .u8) ∧ ∀ s : ByteArray, ns.foldl (fun r n => r.push (UInt8.ofNat n.toNat)) s = ⟨⟨s.data.toList ++ l⟩⟩
  | [], l, hb => by
    simp only [bytesOfL, Option.some.injEq] at hb
    subst hb
    exact ⟨[], rfl, fun s => by simp⟩
  | x :: c, l, hb => by
    cases x with
    | int k n => cases k with
      | u8 =>
        simp only [bytesOfL] at hb
        cases hr : bytesOfL c with
        | none => simp [hr] at hb
        | some r =>
          simp only [hr, Option.some.injEq] at hb
          subst hb
          obtain ⟨ns, h1, h2⟩ := bytes_nums hr
          refine ⟨n :: ns, by rw [h1]; rfl, fun s => ?_⟩
          rw [List.foldl_cons, h2]
          congr 2
          show (s.data.push (UInt8.ofNat n.toNat)).toList ++ r = _
          rw [Array.toList_push, List.append_assoc]; rfl
      | _ => simp [bytesOfL] at hb
    | _ => simp [bytesOfL] at hb
theorem LR.ints {k : IntKind} : ∀ {ns : List Int} {c' : List Value}, LR M (ns.map (Value.int k)) c' → c' = ns.map (Value.int k)
  | [], c', h => h.nil_inv
  | n :: ns, c', h => by
    obtain ⟨y, c2, rfl, hv, h'⟩ := h.cons_inv
    rw [int_inv hv, LR.ints h']; rfl
theorem op_bytes_string (H : HR M w0 h w) {s d e : TypeId} {b o n c2 : Nat} {u : Value} {c : List Value} {l : List UInt8} (hu : VR M (.slice (some ⟨b, o, none⟩) n c2) u) (hs : P.underlying s = some (.slice e)) (hd : P.underlying d = some .string) (he : P.underlying e = some (.int .u8))
    (hr : h.rd b o n = some c) (hb : bytesOfL c = some l) : ∃ v', (convert s d u).run P w = .ok v' w ∧ VR M (.string ⟨⟨l⟩⟩) v' := by
  obtain ⟨ll, x, c', hll, rfl, k1, k2, k3, k4, k5⟩ := slice_inv hu
  obtain ⟨h1, cs, h2, h3⟩ := H.rd hll hr
  obtain ⟨ns, h4, h5⟩ := bytes_nums hb
  subst h4
  have h6 := h2.ints
  subst h6
  have hn : n = (ns.map (Value.int .u8)).length := h1.symm
  refine ⟨_, ?_, .str _⟩
  rw [run_convert_bytes_string w s d e _ _ _ hs he hd, run_bytesToString w _ n c' ns]
  · rw [h5]; rfl
  · rw [hn]
    refine run_loadCells_list w _ _ fun j v hv => ?_
    have hj : j < n := by have := (List.getElem?_eq_some_iff.1 hv).1; omega
    rw [addr_add, k3 (by omega)]
    exact h3 j v hv
theorem op_nil_string {s d e : TypeId} {n c2 : Nat} {u : Value} (hu : VR M (.slice none n c2) u) (hs : P.underlying s = some (.slice e)) (hd : P.underlying d = some .string) (he : P.underlying e = some (.int .u8)) :
    ∃ v', (convert s d u).run P w = .ok v' w ∧ VR M (.string ⟨⟨[]⟩⟩) v' := by
  obtain ⟨c, _, rfl⟩ := slice_nil_inv hu
  refine ⟨_, ?_, .str _⟩
  rw [run_convert_bytes_string w s d e _ _ _ hs he hd]
  rfl
theorem modify_push {α : Type} (xs : Array α) (x : α) (f : α → α) : (xs.push x).modify xs.size f = xs.push (f x) := by
  apply Array.ext_getElem?
  intro i
  rw [Array.getElem?_modify, Array.getElem?_push, Array.getElem?_push]
  by_cases e : i = xs.size
  · subst e; simp
  · have : ¬ xs.size = i := fun q => e q.symm
    simp [e, this]
theorem op_string_bytes (H : HR M w0 h w) {s d e : TypeId} {str : ByteArray} {u : Value} (hu : VR M (.string str) u) (hs : P.underlying s = some .string) (hd : P.underlying d = some (.slice e)) (he : P.underlying e = some (.int .u8)) :
    ∃ N w' v', (convert s d u).run P w = .ok v' w' ∧ HR (M ++ N) w0 (h.push (.cells (str.data.toList.map fun b => .int .u8 b.toNat) 1)) w' ∧ VR (M ++ N) (.slice (some ⟨h.next, 0, none⟩) str.data.toList.length (2 * str.data.toList.length)) v' := by
  rw [str_inv hu]
  obtain ⟨cap, hcap⟩ : ∃ cap, cap = (Question.appendCap str.size 0 e).cut (w.tape w.drawn (Question.appendCap str.size 0 e)) := ⟨_, rfl⟩
  have hge : str.size ≤ cap := by rw [hcap]; exact Nat.le_add_right _ _
  have hlen : str.data.toList.length = str.size := str_size str
  obtain ⟨arr, harr⟩ : ∃ arr : Array Value, arr = (str.data.map fun b => (.int .u8 b.toNat : Value)) ++ Array.replicate (cap - str.size) (.int .u8 0) := ⟨_, rfl⟩
  have hsz : arr.size = cap := by
    rw [harr, Array.size_append, Array.size_map, Array.size_replicate]
    have : str.data.size = str.size := rfl
    omega
  have H2 : HR (M ++ [⟨w.heap.size, 0, arr.size, 1⟩]) w0 (h.push (.cells (str.data.toList.map fun b => .int .u8 b.toNat) 1)) (w.drew.alloc (.cells arr e (arr.size, arr.size + 1))) :=
    (H.drew).alloc_cells _ 1 arr e (arr.size, arr.size + 1) (.inr (Nat.le_refl _)) (by simp [hlen, hsz]; omega) (fun i x hx => by
      refine ⟨x, ?_, ?_⟩
      · rw [harr, Array.getElem?_append_left (by have := (List.getElem?_eq_some_iff.1 hx).1; simpa using this)]
        rw [← Array.getElem?_toList, Array.toList_map]; exact hx
      · rw [List.getElem?_map] at hx
        cases hb : str.data.toList[i]? with
        | none => rw [hb] at hx; cases hx
        | some b => rw [hb] at hx; cases hx; exact .int _ _)
  refine ⟨_, _, .slice (some ⟨w.heap.size, 0, none⟩) str.data.toList.length cap, ?_, H2, ?_⟩
  · have hf : (Question.appendCap str.size 0 e).forced = false := rfl
    simp only [convert, Sem.run_bind, run_underlying hs, run_underlying hd, run_underlying he, Result.andThen_ok, Conv.stringToBytes, run_choose, hf, Bool.false_eq_true, if_false]
    rw [← hcap, ← harr, hlen]
    simp only [newRow, markStringish, Sem.run_bind, run_newObj, Sem.run_pure, Result.andThen_ok, run_shape]
    have e1 : World.shape? { w with heap := w.heap.push (.cells arr e), drawn := w.drawn + 1 } w.heap.size = some (e, arr.size) := by
      simp [World.shape?]
    simp only [e1, run_freeze, Sem.run_bind, Result.andThen_ok, Sem.run_pure]
    congr 1
    unfold World.freeze
    simp only [Nat.one_ne_zero, if_false]
    rw [modify_push]
    rfl
  · refine .sg _ _ _ _ _ _ ⟨w.heap.size, 0, arr.size, 1⟩ (get_new M _ _ H.len) (by rw [hlen]; exact hge) (Nat.le_refl _) (fun _ => ⟨rfl, by simp; omega⟩)

/-! ### alike? -/
theorem isNone_of_VR {p : Option Addr} {u : Value} (h : VR M (.pointer p) u) : ∃ p', u = .pointer p' ∧ p'.isNone = p.isNone := by
  cases h with
  | pnil => exact ⟨none, rfl, rfl⟩
  | ptr b o l h => exact ⟨_, rfl, rfl⟩
theorem isNone_of_VRs {p : Option Addr} {n c : Nat} {u : Value} (h : VR M (.slice p n c) u) : ∃ p' c', u = .slice p' n c' ∧ p'.isNone = p.isNone := by
  cases h with
  | snil n c => exact ⟨none, c, rfl, rfl⟩
  | sx b o n c x l h => exact ⟨_, _, rfl, rfl⟩
  | sg b o n c c' x l h => exact ⟨_, _, rfl, rfl⟩
theorem isNone_of_VRm {p : Option Nat} {u : Value} (h : VR M (.map p) u) : ∃ p', u = .map p' ∧ p'.isNone = p.isNone := by
  cases h with
  | mnil => exact ⟨none, rfl, rfl⟩
  | map r l h => exact ⟨_, rfl, rfl⟩
theorem func_of_VR {f : Fn} {a b : Array Value} {u : Value} (h : VR M (.func f a b) u) : ∃ f' a' b', u = .func f' a' b' := by
  cases h with
  | fn => exact ⟨_, _, _, rfl⟩
  | yld => exact ⟨_, _, _, rfl⟩
theorem eqA_sound {t : TypeId} {a b a' b' : Value} {r : Bool} (ha : VR M a a') (hb : VR M b b') (h : eqA P t a b = some r) :
    (Op.equal t a' b').run P w = .ok r w ∧ (∀ op x y, (eqGuard op t x y a' b').run P w = .ok () w) ∧ ∀ op, op = .eql ∨ op = .neq → binOp op t a' b' = (do let q ← Op.equal t a' b'; pure (.bool (if op = .neq then !q else q))) := by
  obtain ⟨dp, hq⟩ : ∃ d, Op.equal t a' b' = Op.equalIn (d + 1) t a' b' := ⟨9999, rfl⟩
  unfold eqA at h
  split at h
  · rename_i e q hu
    simp only [Option.some.injEq] at h
    cases ha
    obtain ⟨q', rfl, hn⟩ := isNone_of_VR hb
    refine ⟨by rw [hq]; simp only [Op.equalIn, Sem.run_bind, run_underlying hu, Result.andThen_ok, Sem.run_pure, hn, h], fun op x y => by simp only [eqGuard]; split <;> rfl, fun op ho => by rcases ho with rfl | rfl <;> rfl⟩
  · rename_i e p hu
    simp only [Option.some.injEq] at h
    cases hb
    cases ha
    subst h
    refine ⟨by rw [hq]; simp only [Op.equalIn, Sem.run_bind, run_underlying hu, Result.andThen_ok, Sem.run_pure], fun op x y => by simp only [eqGuard]; split <;> rfl, fun op ho => by rcases ho with rfl | rfl <;> rfl⟩
  · rename_i e p o q r' hu
    cases hs : sizeT P e with
    | none => simp [hs] at h
    | some n =>
      simp only [hs] at h
      cases hc : (Nat.beq p q && !Nat.beq n 0) with
      | false => simp [hc] at h
      | true =>
        simp only [hc, cnd_true, Option.some.injEq] at h
        simp only [Bool.and_eq_true, Bool.not_eq_true'] at hc
        obtain ⟨hpq, hn⟩ := hc
        have hpq := Nat.eq_of_beq_eq_true hpq
        subst hpq
        have hn := Nat.ne_of_beq_eq_false hn
        obtain ⟨l, hl, rfl⟩ := ptr_inv ha
        obtain ⟨l', hl', rfl⟩ := ptr_inv hb
        rw [hl] at hl'
        cases hl'
        subst h
        refine ⟨?_, fun op x y => by simp only [eqGuard]; split <;> rfl, fun op ho => by rcases ho with rfl | rfl <;> rfl⟩
        rw [hq]
        simp only [Op.equalIn, Sem.run_bind, run_underlying hu, Result.andThen_ok, run_sizeOf hs, ne_eq, hn, not_false_eq_true, if_true, sameAddr, beq_self_eq_true, Sem.run_pure]
        congr 1
        by_cases e2 : o = r'
        · subst e2; simp
        · rw [show Nat.beq o r' = false from by rw [Nat.beq_eq_false_iff_ne']; exact e2]
          simp only [beq_eq_false_iff_ne, ne_eq, Addr.mk.injEq, true_and, and_true]
          omega
  · rename_i e n c q m d hu
    simp only [Option.some.injEq] at h
    cases ha
    obtain ⟨q', c', rfl, hn⟩ := isNone_of_VRs hb
    refine ⟨by rw [hq]; simp only [Op.equalIn, Sem.run_bind, run_underlying hu, Result.andThen_ok, Sem.run_pure, hn, h], fun op x y => by simp only [eqGuard]; split <;> rfl, fun op ho => by rcases ho with rfl | rfl <;> rfl⟩
  · rename_i e p n c m d hu
    simp only [Option.some.injEq] at h
    subst h
    obtain ⟨q', c', rfl, hn⟩ := isNone_of_VRs ha
    cases q' with
    | none => simp at hn
    | some q' =>
      cases hb
      refine ⟨by rw [hq]; simp only [Op.equalIn, Sem.run_bind, run_underlying hu, Result.andThen_ok, Sem.run_pure], fun op x y => by simp only [eqGuard]; split <;> rfl, fun op ho => by rcases ho with rfl | rfl <;> rfl⟩
  · rename_i k e q hu
    simp only [Option.some.injEq] at h
    cases ha
    obtain ⟨q', rfl, hn⟩ := isNone_of_VRm hb
    refine ⟨by rw [hq]; simp only [Op.equalIn, Sem.run_bind, run_underlying hu, Result.andThen_ok, Sem.run_pure, hn, h], fun op x y => by simp only [eqGuard]; split <;> rfl, fun op ho => by rcases ho with rfl | rfl <;> rfl⟩
  · rename_i k e p hu
    simp only [Option.some.injEq] at h
    subst h
    obtain ⟨q', rfl, hn⟩ := isNone_of_VRm ha
    cases q' with
    | none => simp at hn
    | some q' =>
      cases hb
      refine ⟨by rw [hq]; simp only [Op.equalIn, Sem.run_bind, run_underlying hu, Result.andThen_ok, Sem.run_pure], fun op x y => by simp only [eqGuard]; split <;> rfl, fun op ho => by rcases ho with rfl | rfl <;> rfl⟩
  · rename_i hu
    simp only [Option.some.injEq] at h
    subst h
    cases ha; cases hb
    refine ⟨by rw [hq]; simp only [Op.equalIn, Sem.run_bind, run_underlying hu, Result.andThen_ok, Sem.run_pure], fun op x y => by simp only [eqGuard]; split <;> rfl, fun op ho => by rcases ho with rfl | rfl <;> rfl⟩
  · rename_i hu
    simp only [Option.some.injEq] at h
    subst h
    cases ha
    obtain ⟨f', a', b', rfl⟩ := func_of_VR hb
    refine ⟨by rw [hq]; simp only [Op.equalIn, Sem.run_bind, run_underlying hu, Result.andThen_ok, Sem.run_pure], fun op x y => by simp only [eqGuard]; split <;> rfl, fun op ho => by rcases ho with rfl | rfl <;> rfl⟩
  · rename_i hu
    simp only [Option.some.injEq] at h
    subst h
    cases hb
    obtain ⟨f', a', b', rfl⟩ := func_of_VR ha
    refine ⟨by rw [hq]; simp only [Op.equalIn, Sem.run_bind, run_underlying hu, Result.andThen_ok, Sem.run_pure], fun op x y => by simp only [eqGuard]; split <;> rfl, fun op ho => by rcases ho with rfl | rfl <;> rfl⟩
  · rename_i hu
    simp only [Option.some.injEq] at h
    subst h
    cases ha; cases hb
    refine ⟨by rw [hq]; simp only [Op.equalIn, Sem.run_bind, run_underlying hu, Result.andThen_ok, Sem.run_pure], fun op x y => by simp only [eqGuard]; split <;> rfl, fun op ho => by rcases ho with rfl | rfl <;> rfl⟩
  · rename_i hu
    simp only [Option.some.injEq] at h
    subst h
    cases ha; cases hb
    refine ⟨by rw [hq]; simp only [Op.equalIn, Sem.run_bind, run_underlying hu, Result.andThen_ok, Sem.run_pure], fun op x y => by simp only [eqGuard]; split <;> rfl, fun op ho => by rcases ho with rfl | rfl <;> rfl⟩
  · cases h
theorem wrapF_eq (k : IntKind) (n : Int) : wrapF k n = k.wrap n := by
  unfold wrapF IntKind.wrap
  have h8 : (2 : Int) ^ 8 = 256 := by decide
  have h16 : (2 : Int) ^ 16 = 65536 := by decide
  have h32 : (2 : Int) ^ 32 = 4294967296 := by decide
  have h64 : (2 : Int) ^ 64 = 18446744073709551616 := by decide
  have g8 : (2 : Int) ^ 7 = 128 := by decide
  have g16 : (2 : Int) ^ 15 = 32768 := by decide
  have g32 : (2 : Int) ^ 31 = 2147483648 := by decide
  have g64 : (2 : Int) ^ 63 = 9223372036854775808 := by decide
  have e : ∀ a b : Int, Int.emod a b = a % b := fun _ _ => rfl
  have e2 : ∀ a b : Int, Int.sub a b = a - b := fun _ _ => rfl
  cases k <;> simp only [sgnK, halfK, fullK, IntKind.signed, IntKind.bits, e, e2, h8, h16, h32, h64, Bool.true_and, Bool.false_and, cnd_false, Bool.false_eq_true, if_false, Nat.reduceSub, g8, g16, g32, g64, ge_iff_le]
  all_goals (split <;> rename_i c <;> simp only [c, cnd_true, cnd_false, decide_true, decide_false])
theorem natK_eq (k : IntKind) (n : Int) : natK k n = (BitVec.ofInt k.bits n).toNat := by
  rw [BitVec.toNat_ofInt]
  unfold natK
  have h8 : (2 : Nat) ^ 8 = 256 := by decide
  have h16 : (2 : Nat) ^ 16 = 65536 := by decide
  have h32 : (2 : Nat) ^ 32 = 4294967296 := by decide
  have h64 : (2 : Nat) ^ 64 = 18446744073709551616 := by decide
  cases k <;> simp only [fullK, IntKind.bits, h8, h16, h32, h64] <;> rfl
theorem intF_eq {op : BinOp} {k : IntKind} {x y : Int} {v : Value} (h : intF op k x y = some v) (hs : isSh op = false) (t : TypeId) : binOp op t (.int k x) (.int k y) = pure v ∧ flat1 v = true := by
  unfold intF at h
  unfold binOp
  cases op <;> first | (cases h; done) | (cases hs; done) | skip
  all_goals simp only [Option.some.injEq] at h
  all_goals subst h
  all_goals refine ⟨?_, rfl⟩
  all_goals simp only [ne_eq, not_true_eq_false, if_false, Op.intArith, Op.intBits, Op.intCmp, wrapF_eq, natK_eq, BitVec.toNat_and, BitVec.toNat_or, BitVec.toNat_xor]
  all_goals first | rfl | (congr 2; done) | skip
theorem shN_eq (k : IntKind) (y : Int) : shN k y = min y.toNat k.bits := by
  unfold shN
  have : bitsK k = k.bits := by cases k <;> rfl
  rw [this]
  show cnd (Nat.ble y.toNat k.bits) y.toNat k.bits = _
  cases h : Nat.ble y.toNat k.bits with
  | true => have := Nat.le_of_ble_eq_true h; rw [cnd_true]; omega
  | false =>
    have : ¬ y.toNat ≤ k.bits := fun q => by rw [Nat.ble_eq_true_of_le q] at h; cases h
    rw [cnd_false]; omega
theorem shF_eq {op : BinOp} {j k : IntKind} {x y : Int} {v : Value} (h : shF op j x y = some v) (t : TypeId) : binOp op t (.int j x) (.int k y) = pure v ∧ flat1 v = true := by
  unfold shF at h
  cases op <;> first | (cases h; done) | skip
  all_goals (
    simp only at h
    by_cases c : 0 ≤ y
    · rw [decide_eq_true c, cnd_true] at h
      have c' : ¬ y < 0 := by omega
      simp only [binOp, Op.shift, c', if_false]
      first
        | (simp only [Option.some.injEq] at h; subst h; refine ⟨?_, rfl⟩; rw [wrapF_eq, shN_eq]
           show _ = pure (Value.int j (j.wrap (x * ((2 ^ (min y.toNat j.bits) : Nat) : Int))))
           rw [Int.natCast_pow]; rfl)
        | (cases x with
           | negSucc a => cases h
           | ofNat a =>
             simp only [shrF, Option.some.injEq] at h
             subst h
             refine ⟨?_, rfl⟩
             rw [shN_eq]
             have e : Int.fdiv (Int.ofNat a) (2 ^ (min y.toNat j.bits)) = Int.ofNat (Nat.shiftRight a (min y.toNat j.bits)) := by
               have e1 : (2 : Int) ^ (min y.toNat j.bits) = ((2 ^ (min y.toNat j.bits) : Nat) : Int) := by rw [Int.natCast_pow]; rfl
               have e2 : Nat.shiftRight a (min y.toNat j.bits) = a / 2 ^ (min y.toNat j.bits) := Nat.shiftRight_eq_div_pow _ _
               rw [e1, e2, Int.fdiv_eq_ediv_of_nonneg _ (Int.natCast_nonneg _)]
               rfl
             rw [e])
    · rw [decide_eq_false c, cnd_false] at h
      cases h)
theorem fastBin_eq {op : BinOp} {a b v : Value} (h : fastBin op a b = some v) (t : TypeId) : binOp op t a b = pure v ∧ flat1 v = true ∧ flat1 a = true ∧ flat1 b = true := by
  unfold fastBin at h
  cases a <;> first | (cases h; done) | skip
  cases b <;> first | (cases h; done) | skip
  rename_i j x k y
  simp only [fastI] at h
  cases hs : isSh op with
  | true => rw [hs, cnd_true] at h; exact ⟨(shF_eq h t).1, (shF_eq (k := k) h t).2, rfl, rfl⟩
  | false =>
    rw [hs, cnd_false] at h
    by_cases c : j = k
    · subst c
      rw [decide_eq_true rfl, cnd_true] at h
      exact ⟨(intF_eq h hs t).1, (intF_eq h hs t).2, rfl, rfl⟩
    · rw [decide_eq_false c, cnd_false] at h; cases h
theorem fastUn_eq {op : UnOp} {a v : Value} (h : fastUn op a = some v) : Op.unary op a = pure v := by
  unfold fastUn at h
  cases a <;> first | (cases h; done) | skip
  · cases op <;> first | (cases h; done) | skip
    all_goals simp only [Option.some.injEq] at h
    all_goals subst h
    all_goals rfl
  · rename_i k n
    cases op <;> first | (cases h; done) | skip
    · have := (intF_eq h rfl 0).1
      simp only [binOp, ne_eq, not_true_eq_false, if_false] at this
      exact this
    · have := (intF_eq h rfl 0).1
      simp only [binOp, ne_eq, not_true_eq_false, if_false] at this
      rw [← this]
      show Op.intBits .xor k (if k.signed then -1 else k.max) n = _
      congr 1
      cases k <;> simp only [IntKind.signed, IntKind.max, sgnK, fullK, cnd_true, cnd_false, if_true, Bool.false_eq_true, if_false, IntKind.bits] <;> decide
theorem orE_inv {α : Type} {x y : Option α} {a : α} (h : orE x y = some a) : x = some a ∨ (x = none ∧ y = some a) := by
  cases x with
  | none => exact .inr ⟨rfl, h⟩
  | some b => exact .inl h
theorem op_bin {op : BinOp} {t : TypeId} {x y : Operand} {u1 u2 v1 v2 v : Value} (h1 : VR M u1 v1) (h2 : VR M u2 v2) (he : evBin P op t x y u1 u2 = some v) :
    ∃ v', ((do eqGuard op t x y v1 v2; binOp op t v1 v2 : Sem Value)).run P w = .ok v' w ∧ VR M v v' := by
  unfold evBin at he
  rcases orE_inv he with he | ⟨_, he⟩
  · obtain ⟨q1, q2, q3, q4⟩ := fastBin_eq he t
    rw [h1.flat1_eq q3, h2.flat1_eq q4, q1]
    have hg : (eqGuard op t x y u1 u2).run P w = .ok () w := by
      unfold eqGuard
      cases u1 <;> first | (cases q3; done) | skip
      all_goals (cases u2 <;> first | (cases q4; done) | skip)
      all_goals (cases op <;> rfl)
    exact ⟨v, by simp only [Sem.run_bind, hg, Result.andThen_ok, Sem.run_pure], VR.of_flat1 M q2⟩
  cases hf : (flat u1 && flat u2) with
  | true =>
    rw [hf] at he
    simp only [cnd_true] at he
    simp only [Bool.and_eq_true] at hf
    rw [h1.flat_eq hf.1, h2.flat_eq hf.2]
    cases hp : absPure P (do eqGuard op t x y u1 u2; binOp op t u1 u2) with
    | none => simp [hp] at he
    | some v0 =>
      simp only [hp] at he
      cases h3 : flat1 v0 with
      | false => simp [h3] at he
      | true => simp only [h3, cnd_true, Option.some.injEq] at he; subst he; exact op_pure hp h3
  | false =>
    rw [hf] at he
    simp only [cnd_false] at he
    cases hq : eqA P t u1 u2 with
    | none => cases op <;> simp [hq] at he
    | some r =>
      obtain ⟨e1, e2, e3⟩ := eqA_sound (w := w) h1 h2 hq
      rw [hq] at he
      cases op with
      | eql =>
        simp only [Option.some.injEq] at he
        subst he
        refine ⟨.bool r, ?_, .bool r⟩
        simp only [Sem.run_bind, e2, Result.andThen_ok, e3 .eql (.inl rfl), e1, Sem.run_pure]
        rfl
      | neq =>
        simp only [Option.some.injEq] at he
        subst he
        refine ⟨.bool (!r), ?_, .bool _⟩
        simp only [Sem.run_bind, e2, Result.andThen_ok, e3 .neq (.inr rfl), e1, Sem.run_pure]
        rfl
      | _ => cases he
end
end Go.Proofs.YtddgcakiceodgaaGreat.EV
