/- Contracts: queues: what slices.Values hands on; Collect. No condition. -/
import Derived.Test.YtbbdhpjkibbnkaaOq6
import Derived.Test.YtbbdhpjkibbnkaaSy9
namespace Go.Proofs.Ytbbdhpjkibbnkaa.EV
open Go Go.Proofs
set_option linter.unusedVariables false
set_option linter.unusedSimpArgs false
set_option maxRecDepth 100000
set_option pp.deepTerms false
set_option pp.deepTerms.threshold 20
noncomputable def argQ (_ : Nat) (x : QI) : List Value := [.agg ⟨[.int .i64 x.key, .int .i64 x.id]⟩]
theorem values_it (l : List QI) (s : Value) (A : Nat) (base : Heap) (bx : List (Nat × Value)) (hA : (A, s) ∈ bx) (hs : SL qE 2 base s l) (hl : l.length < 900000) :
    Iter Try.prog O0 argQ 46 [ptr A 0] l bx base := by
  intro yv I D h0 W0 yc fI fD fb x0 b0 i0 hy
  rw [EF_body (O := O0) (by kernel_rfl) Try.func46 rfl (rs := []) rfl (bad := []) (by kernel_rfl) _ _ (m := 16) rfl]
  have gA : h0.get A = .cells [s] 0 := (b0 _ hA).1
  obtain ⟨a, c, rfl⟩ := hs.val
  simp (maxSteps := 1000000) (disch := first | decide | omega | (simp only [go_sem]; first | done | omega)) only [go_sem, Int.reduceToNat, Nat.reduceMul, Nat.reduceAdd, Nat.reduceSub, ↓EU_region, ↓EU_draw, gA]
  repeat refine WPo_ob ?_
  refine (LP_rule (fun m st => ∃ (i : Nat) (tm : Fr) (h' : Heap) (W : Nat → Prop), st = ⟨tm, h', []⟩ ∧ m = l.length - i ∧ i ≤ l.length ∧ Fr.get tm 0 = yv ∧ Fr.get tm 5 = .slice a l.length c ∧ Fr.get tm 6 = .int .i64 l.length ∧ Fr.get tm 7 = .int .i64 (i : Int) ∧ I i h' W ∧ (∀ j, W j → W0 j ∨ h0.next ≤ j) ∧ Mod W0 h0 h' ∧ Ext base h' ∧ BX bx h')
    (fun q => ∃ tm h', q.2 = ⟨tm, h', []⟩ ∧ (q.1 = .exit 0 ∨ q.1 = .ret) ∧ ((∃ W, I l.length h' W ∧ ∀ j, W j → W0 j ∨ h0.next ≤ j) ∨ (∃ W, D h' W ∧ ∀ j, W j → W0 j ∨ h0.next ≤ j)) ∧ Mod W0 h0 h') ?_ l.length _ _ ?_ ?_).mono ?_
  · rintro m _ ⟨i, tm, h', W, rfl, hm, hi, g0, g5, g6, g7, ii, hW, md, xx, bb⟩
    by_cases q : i < l.length
    · have d : decide ((i : Int) < (l.length : Int)) = true := decide_eq_true (by omega)
      have hwi : wrapF .i64 ((i : Int) + 1) = ((i + 1 : Nat) : Int) := by rw [wrap64 (by omega)]; rfl
      obtain ⟨x, hx⟩ : ∃ x, l[i]? = some x := ⟨_, List.getElem?_eq_getElem q⟩
      obtain ⟨B, o, c', e, _, r1, _⟩ := (hs.ext xx).at hx rfl
      cases e
      have r1 : rdc (h'.get B) (o + i * 2) 2 = some [.int .i64 x.key, .int .i64 x.id] := r1
      have ii2 := fI i _ (h'.push (.cells [.int .i64 x.key, .int .i64 x.id] 0)) W (fun _ => False) ii ((Mod.refl _ _).push _) (fun _ _ q => q)
      have hyy := hy i x _ W hx ii2 (xx.push _) (bb.push _)
      unfold argQ at hyy
      have hbW := fb _ _ _ ii
      have n1 : (h'.push (.cells [.int .i64 x.key, .int .i64 x.id] 0)).next = h'.next + 1 := next_push _ _
      simp (maxSteps := 1000000) (disch := first | decide | omega | (simp only [go_sem]; first | done | omega)) only [go_sem, Int.reduceToNat, Nat.reduceMul, Nat.reduceAdd, Nat.reduceSub, ↓EU_region, ↓EU_draw, g0, g5, g6, g7, d, r1]
      repeat refine WPo_ob ?_
      refine hyy.mono ?_
      rintro ⟨v, h2⟩ ⟨r, m2⟩
      simp only at r m2
      have hle := md.le
      have hk : ∀ W' : Nat → Prop, (∀ j, W' j → W j ∨ (h'.push (.cells [.int .i64 x.key, .int .i64 x.id] 0)).next ≤ j) → ∀ j, W' j → W0 j ∨ h0.next ≤ j := fun W' k j hj => by
        rcases k j hj with q | q
        · exact hW j q
        · exact .inr (by omega)
      have md2 : Mod W0 h0 h2 := (md.push _).own m2 hW
      have xx2 : Ext base h2 := Mod.ext (((xx.push _).mod (fun _ => False)).own m2 (fun j hj => .inr (hbW j hj).1))
      have bb2 : BX bx h2 := (bb.push _).mod m2 fun p hp k => (hbW _ k).2.2 p hp rfl
      rcases r with ⟨rfl, W', i2, w2⟩ | ⟨rfl, W', d2, w2⟩
      · simp (maxSteps := 1000000) (disch := first | decide | omega | (simp only [go_sem]; first | done | omega)) only [go_sem, Int.reduceToNat, Nat.reduceMul, Nat.reduceAdd, Nat.reduceSub, ↓EU_region, ↓EU_draw, g7, hwi]
        exact ⟨l.length - (i + 1), by omega, i + 1, _, h2, W', rfl, rfl, by omega, by simp (maxSteps := 1000000) (disch := first | decide | omega | (simp only [go_sem]; first | done | omega)) only [go_sem, Int.reduceToNat, Nat.reduceMul, Nat.reduceAdd, Nat.reduceSub, ↓EU_region, ↓EU_draw, g0], by simp (maxSteps := 1000000) (disch := first | decide | omega | (simp only [go_sem]; first | done | omega)) only [go_sem, Int.reduceToNat, Nat.reduceMul, Nat.reduceAdd, Nat.reduceSub, ↓EU_region, ↓EU_draw, g5], by simp (maxSteps := 1000000) (disch := first | decide | omega | (simp only [go_sem]; first | done | omega)) only [go_sem, Int.reduceToNat, Nat.reduceMul, Nat.reduceAdd, Nat.reduceSub, ↓EU_region, ↓EU_draw, g6], by simp (maxSteps := 1000000) (disch := first | decide | omega | (simp only [go_sem]; first | done | omega)) only [go_sem, Int.reduceToNat, Nat.reduceMul, Nat.reduceAdd, Nat.reduceSub, ↓EU_region, ↓EU_draw], i2, hk W' w2, md2, xx2, bb2⟩
      · simp (maxSteps := 1000000) (disch := first | decide | omega | (simp only [go_sem]; first | done | omega)) only [go_sem, Int.reduceToNat, Nat.reduceMul, Nat.reduceAdd, Nat.reduceSub, ↓EU_region, ↓EU_draw]
        exact ⟨_, h2, rfl, .inr trivial, .inr ⟨W', d2, hk W' w2⟩, md2⟩
    · have d : decide ((i : Int) < (l.length : Int)) = false := decide_eq_false (by omega)
      obtain rfl : i = l.length := by omega
      simp (maxSteps := 1000000) (disch := first | decide | omega | (simp only [go_sem]; first | done | omega)) only [go_sem, Int.reduceToNat, Nat.reduceMul, Nat.reduceAdd, Nat.reduceSub, ↓EU_region, ↓EU_draw, g6, g7, d]
      exact ⟨_, h', rfl, .inl trivial, .inl ⟨W, ii, hW⟩, md⟩
  · exact ⟨0, _, h0, W0, rfl, rfl, by omega, by simp (maxSteps := 1000000) (disch := first | decide | omega | (simp only [go_sem]; first | done | omega)) only [go_sem, Int.reduceToNat, Nat.reduceMul, Nat.reduceAdd, Nat.reduceSub, ↓EU_region, ↓EU_draw], by simp (maxSteps := 1000000) (disch := first | decide | omega | (simp only [go_sem]; first | done | omega)) only [go_sem, Int.reduceToNat, Nat.reduceMul, Nat.reduceAdd, Nat.reduceSub, ↓EU_region, ↓EU_draw], by simp (maxSteps := 1000000) (disch := first | decide | omega | (simp only [go_sem]; first | done | omega)) only [go_sem, Int.reduceToNat, Nat.reduceMul, Nat.reduceAdd, Nat.reduceSub, ↓EU_region, ↓EU_draw], by simp (maxSteps := 1000000) (disch := first | decide | omega | (simp only [go_sem]; first | done | omega)) only [go_sem, Int.reduceToNat, Nat.reduceMul, Nat.reduceAdd, Nat.reduceSub, ↓EU_region, ↓EU_draw]; rfl, i0, fun j hj => .inl hj, Mod.refl _ _, x0, b0⟩
  · omega
  · rintro ⟨_, _⟩ ⟨tm, h', rfl, e, r, md⟩
    rcases e with rfl | rfl
    · simp (maxSteps := 1000000) (disch := first | decide | omega | (simp only [go_sem]; first | done | omega)) only [go_sem, Int.reduceToNat, Nat.reduceMul, Nat.reduceAdd, Nat.reduceSub, ↓EU_region, ↓EU_draw]
      exact ⟨r, md⟩
    · simp (maxSteps := 1000000) (disch := first | decide | omega | (simp only [go_sem]; first | done | omega)) only [go_sem, Int.reduceToNat, Nat.reduceMul, Nat.reduceAdd, Nat.reduceSub, ↓EU_region, ↓EU_draw]
      exact ⟨r, md⟩
theorem FrI.none : FrI (fun (_ : Unit) (_ : Heap) (_ : Nat → Prop) => False) := fun _ _ _ _ _ h _ _ => h
noncomputable def stR (p : Option Code) : LoopState := match p with
  | none => .ready
  | some _ => .done
theorem stR_b (p : Option Code) : isBusy (stR p) = false := by cases p <;> rfl
theorem setP1 (n : Nat) (t : Tmp) (v : Value) (tm : Fr) : setParams n ([t].zip [v]) tm = Fr.put n tm t v := rfl
set_option maxHeartbeats 4000000 in
theorem appSeq_ev (g : FuncId) (y : List Value) (L : List QI) (h : Heap) {bx : List (Nat × Value)} (it : Iter Try.prog O0 argQ g y L bx h) (hbx : BX bx h) (hL : L.length < 800000) :
    WPo (EF Try.prog O0 48 [.slice none 0 1, .func (.func g) ⟨[]⟩ ⟨y⟩] h) fun q => OW qE 2 q.2 q.1 L ∧ Fresh h.next q.1 ∧ Ext h q.2 := by
  rw [EF_body (O := O0) (by kernel_rfl) Try.func48 rfl (rs := [.tmp 4]) rfl (bad := []) (by kernel_rfl) _ _ (m := 13) rfl]
  simp (maxSteps := 1000000) (disch := first | decide | omega | (simp only [go_sem]; first | done | omega)) only [go_sem, Int.reduceToNat, Nat.reduceMul, Nat.reduceAdd, Nat.reduceSub, ↓EU_region, ↓EU_draw]
  have x1 : Ext h (h.push (.cells [.slice none 0 1] 0)) := by repeat (first | exact Ext.refl _ | assumption | refine Ext.push ?_ _ | refine Ext.set ?_ _ _ (by first | omega | (simp only [next_push, next_set]; omega)))
  have c0 : (h.push (.cells [.slice none 0 1] 0)).get h.next = .cells [.slice none 0 1] 0 := get_push_new _ _
  have hn1 : (h.push (.cells [.slice none 0 1] 0)).next = h.next + 1 := next_push _ _
  generalize h.push (.cells [.slice none 0 1] 0) = h1 at *
  repeat refine WPo_ob ?_
  refine range_rule' stR (fun p h' => p = none ∧ (∃ v, h'.get h.next = .cells [v] 0 ∧ OW qE 2 h' v L ∧ Fresh (h1.next + 2) v) ∧ h'.get h1.next = .defd ∧ h1.next < h'.next ∧ Ext h h') stR_b ?_ ?_ ?_
  · intro LB hLB
    have g0 : ((h1.push .defd).push (LB .ready none)).get h.next = .cells [.slice none 0 1] 0 := by rw [get_push_old _ (by rw [next_push]; omega), get_push_old _ (by omega)]; exact c0
    have g3 : ((h1.push .defd).push (LB .ready none)).get h1.next = .defd := by rw [get_push_old _ (by rw [next_push]; omega)]; exact get_push_new _ _
    have g4 : ((h1.push .defd).push (LB .ready none)).get (h1.next + 1) = LB .ready none := by rw [← next_push h1 .defd]; exact get_push_new _ _
    have gx : Ext h1 ((h1.push .defd).push (LB .ready none)) := ((Ext.refl h1).push _).push _
    have gn : ((h1.push .defd).push (LB .ready none)).next = h1.next + 2 := by rw [next_push, next_push]
    generalize (h1.push .defd).push (LB .ready none) = hb at *
    have e1 : Ext h hb := x1.trans gx
    refine (it (yieldV (h1.next + 1)) (fun i h' W => h'.get (h1.next + 1) = LB .ready none ∧ hb.next ≤ h'.next ∧ ∃ v, h'.get h.next = .cells [v] 0 ∧ OW qE 2 h' v (L.take i) ∧ Fresh hb.next v ∧ W = fun j => j = h.next ∨ j = h1.next + 1 ∨ blkOf v j) (fun _ _ => False) hb (fun j => j = h.next ∨ j = h1.next + 1 ∨ blkOf (.slice none 0 1) j) rfl ?_ FrI.none ?_ e1 (hbx.ext e1) ⟨g4, Nat.le_refl _, _, g0, OW.nil, Fresh.nil _ _ _, rfl⟩ ?_).mono ?_
    · rintro i h' h'' W S ⟨k4, kn, v, k0, ov, fv, rfl⟩ md hd
      exact ⟨by rw [md.old _ (by omega) (hd _ (.inr (.inl rfl)))]; exact k4, Nat.le_trans kn md.le, v, by rw [md.old _ (by omega) (hd _ (.inl rfl))]; exact k0, ov.mod md fun j hj => hd j (.inr (.inr hj)), fv, rfl⟩
    · rintro i h' W ⟨k4, kn, v, k0, ov, fv, rfl⟩ j hj
      have hq : h.next ≤ j ∧ j < h'.next := by
        rcases hj with e | e | e
        · omega
        · omega
        · have := fv j e
          have := ov.lt e
          omega
      exact ⟨hq.1, hq.2, fun p hp e => by have := (hbx p hp).2; omega⟩
    · rintro i x h' W hx ⟨k4, kn, v, k0, ov, fv, rfl⟩ _ _
      have hi := (List.getElem?_eq_some_iff.1 hx).1
      have tl : (L.take i).length = i := by rw [List.length_take]; omega
      have hnx : L.take (i + 1) = L.take i ++ [x] := by rw [List.take_add_one, hx]; rfl
      have vlt : ∀ j, blkOf v j → j < h'.next := fun j hj => ov.lt hj
      have hnn : h.next < h'.next := by omega
      unfold argQ
      refine round_rule2 hLB k4 rfl (tm1 := ?_) (hA := h'.push (.cells [.int .i64 x.key, .int .i64 x.id] 0)) ?_ (by rw [get_push_old _ (by omega)]; exact k4) ?_
      rotate_left
      · rw [setP1, EC_EU (bad := []) (by kernel_rfl)]
        simp (maxSteps := 1000000) (disch := first | decide | omega | (simp only [go_sem]; first | done | omega)) only [go_sem, Int.reduceToNat, Nat.reduceMul, Nat.reduceAdd, Nat.reduceSub, ↓EU_region, ↓EU_draw]
        rfl
      · rw [EC_EU (bad := []) (by kernel_rfl)]
        have xA : Ext h' (h'.push (.cells [.int .i64 x.key, .int .i64 x.id] 0)) := (Ext.refl h').push _
        have kx : ((h'.push (.cells [.int .i64 x.key, .int .i64 x.id] 0)).set (h1.next + 1) (LB .busy none)).get h'.next = .cells [.int .i64 x.key, .int .i64 x.id] 0 := by rw [get_set_ne _ (by omega)]; exact get_push_new _ _
        have k0' : ((h'.push (.cells [.int .i64 x.key, .int .i64 x.id] 0)).set (h1.next + 1) (LB .busy none)).get h.next = .cells [v] 0 := by rw [get_set_ne _ (by omega), get_push_old _ hnn]; exact k0
        have k4' : ((h'.push (.cells [.int .i64 x.key, .int .i64 x.id] 0)).set (h1.next + 1) (LB .busy none)).get (h1.next + 1) = LB .busy none := get_set_same _ _ _
        have m' : Mod (fun j => j = h.next ∨ j = h1.next + 1 ∨ blkOf v j) h' ((h'.push (.cells [.int .i64 x.key, .int .i64 x.id] 0)).set (h1.next + 1) (LB .busy none)) := ((Mod.refl _ _).push _).set _ _ (fun _ => .inr (.inl rfl))
        have hn' : ((h'.push (.cells [.int .i64 x.key, .int .i64 x.id] 0)).set (h1.next + 1) (LB .busy none)).next = h'.next + 1 := by rw [next_set, next_push]
        have ov' : OW qE 2 ((h'.push (.cells [.int .i64 x.key, .int .i64 x.id] 0)).set (h1.next + 1) (LB .busy none)) v (L.take i) := (ov.ext xA).mod (Mod.set (S := fun j => j = h1.next + 1) (Mod.refl _ _) _ _ (fun _ => rfl)) (fun j hj q => by have := fv j hj; omega)
        generalize (h'.push (.cells [.int .i64 x.key, .int .i64 x.id] 0)).set (h1.next + 1) (LB .busy none) = h2 at *
        obtain ⟨va, vc, hve⟩ := ov'.val
        have hlit : SL qE 2 (h2.push (.cells [.int .i64 x.key, .int .i64 x.id] 2)) (.slice (some ⟨h2.next, 0, none⟩) 1 3) [x] := (OW.lit qE_len h2 [x]).sl
        simp (maxSteps := 1000000) (disch := first | decide | omega | (simp only [go_sem]; first | done | omega)) only [go_sem, Int.reduceToNat, Nat.reduceMul, Nat.reduceAdd, Nat.reduceSub, ↓EU_region, ↓EU_draw, k0', kx]
        repeat refine WPo_ob ?_
        refine append_gr (e := qE) (l := L.take i) (l' := [x]) fc_ap_79_79 qE_len (by decide) qE_scal (ov'.ext ((Ext.refl h2).push _)) hlit (by simp only [List.length_cons, List.length_nil]; omega) (by simp only [List.length_cons, List.length_nil]; omega) fun v3 h3 o3 gr => ?_
        rw [← hnx] at o3
        have hn3 := gr.le
        rw [next_push] at hn3
        have nb1 : ¬ blkOf v h.next := fun q => by have := fv _ q; omega
        have nb2 : ¬ blkOf v (h1.next + 1) := fun q => by have := fv _ q; omega
        have k03 : h3.get h.next = .cells [v] 0 := by rw [gr.old _ (by rw [next_push]; omega) nb1, get_push_old _ (by omega)]; exact k0'
        have k43 : h3.get (h1.next + 1) = LB .busy none := by rw [gr.old _ (by rw [next_push]; omega) nb2, get_push_old _ (by omega)]; exact k4'
        have f3 : Fresh hb.next v3 := fun j hj => by
          rcases gr.src j hj with q | q
          · exact fv j q
          · rw [next_push] at q; omega
        have m3 : Mod (fun j => j = h.next ∨ j = h1.next + 1 ∨ blkOf v j) h' h3 := (m'.push (.cells [.int .i64 x.key, .int .i64 x.id] 2)).drop (Mod.mono (S := blkOf v) ⟨gr.le, fun j hj hq => gr.old j hj hq⟩ fun j _ q => .inl (.inr (.inr q)))
        have w3 : ∀ j, blkOf v3 j → blkOf v j ∨ h'.next ≤ j := fun j hj => by
          rcases gr.src j hj with q | q
          · exact .inl q
          · rw [next_push] at q; exact .inr (by omega)
        obtain ⟨wa, wc, rfl⟩ := o3.val
        simp (maxSteps := 1000000) (disch := first | decide | omega | (simp only [go_sem]; first | done | omega)) only [go_sem, Int.reduceToNat, Nat.reduceMul, Nat.reduceAdd, Nat.reduceSub, ↓EU_region, ↓EU_draw, k03]
        refine ⟨k43, .inl ⟨trivial, .inl ⟨rfl, (fun j => j = h.next ∨ j = h1.next + 1 ∨ blkOf _ j), ⟨get_set_same _ _ _, ?_, _, (get_set_ne _ (by omega)).trans (get_set_same _ _ _), ?_, f3, rfl⟩, ?_⟩, (m3.set _ _ (fun _ => .inl rfl)).set _ _ (fun _ => .inr (.inl rfl))⟩⟩
        · show hb.next ≤ ((h3.set _ _).set _ _).next
          rw [next_set, next_set]; omega
        · exact (o3.mod (Mod.set (S := fun j => j = h.next) (Mod.refl _ _) _ _ (fun _ => rfl)) (fun j hj q => by have := f3 j hj; omega)).mod (Mod.set (S := fun j => j = h1.next + 1) (Mod.refl _ _) _ _ (fun _ => rfl)) (fun j hj q => by have := f3 j hj; omega)
        · rintro j (e | e | e)
          · exact .inl (.inl e)
          · exact .inl (.inr (.inl e))
          · rcases w3 j e with q | q
            · exact .inl (.inr (.inr q))
            · exact .inr q
    · rintro ⟨v, h'⟩ ⟨r, md⟩
      simp only at r md
      rcases r with ⟨W, ⟨k4, kn, v', k0, ov, fv, rfl⟩, _⟩ | ⟨W, r, _⟩
      · rw [List.take_length] at ov
        have k4 : h'.get (h1.next + 1) = LB .ready none := k4
        have kn : hb.next ≤ h'.next := kn
        have k0 : h'.get h.next = .cells [v'] 0 := k0
        have ov : OW qE 2 h' v' L := ov
        have nW : ∀ j, j < hb.next → j ≠ h.next → j ≠ h1.next + 1 → h'.get j = hb.get j := fun j hj h1 h2 => md.old j hj (fun e => by
          rcases e with e | e | e
          · exact h1 e
          · exact h2 e
          · exact e.elim)
        refine ⟨none, k4, rfl, ⟨v', by rw [get_set_ne _ (by omega)]; exact k0, ov.mod (Mod.set (S := fun j => j = h1.next + 1) (Mod.refl _ _) _ _ (fun _ => rfl)) (fun j hj q => by have := fv j hj; omega), by rw [← gn]; exact fv⟩, ?_, by show _ < (h'.set _ _).next; rw [next_set]; omega, ?_⟩
        · rw [get_set_ne _ (by omega), nW _ (by omega) (by omega) (by omega)]; exact g3
        · exact ⟨by show _ ≤ (h'.set _ _).next; rw [next_set]; have := e1.le; omega, fun j hj => by rw [get_set_ne _ (by omega), nW _ (by omega) (by omega) (by omega)]; exact e1.old j hj⟩
      · exact r.elim
  · rintro h' ⟨_, ⟨v, k0, ov, fv⟩, k3, hn, xx⟩
    obtain ⟨va, vc, rfl⟩ := ov.val
    simp (maxSteps := 1000000) (disch := first | decide | omega | (simp only [go_sem]; first | done | omega)) only [go_sem, Int.reduceToNat, Nat.reduceMul, Nat.reduceAdd, Nat.reduceSub, ↓EU_region, ↓EU_draw, k0]
    rw [leaveK_dr _ _ _ _ _ k3]
    simp (maxSteps := 1000000) (disch := first | decide | omega | (simp only [go_sem]; first | done | omega)) only [go_sem, Int.reduceToNat, Nat.reduceMul, Nat.reduceAdd, Nat.reduceSub, ↓EU_region, ↓EU_draw]
    exact ⟨ov.mod (Mod.set (S := fun j => j = h1.next) (Mod.refl _ _) _ _ (fun _ => rfl)) (fun j hj q => by have := fv j hj; omega), fv.mono (by omega), xx.set h1.next _ (by omega)⟩
  · rintro c h' ⟨q, _⟩
    cases q
theorem collect_ev (g : FuncId) (y : List Value) (L : List QI) (h : Heap) {bx : List (Nat × Value)} (it : Iter Try.prog O0 argQ g y L bx h) (hbx : BX bx h) (hL : L.length < 800000) :
    WPo (EF Try.prog O0 44 [.func (.func g) ⟨[]⟩ ⟨y⟩] h) fun q => OW qE 2 q.2 q.1 L ∧ Fresh h.next q.1 ∧ Ext h q.2 := by
  rw [EF_body (O := O0) (by kernel_rfl) Try.func44 rfl (rs := [.tmp 2]) rfl (bad := []) (by kernel_rfl) _ _ (m := 5) rfl]
  simp (maxSteps := 1000000) (disch := first | decide | omega | (simp only [go_sem]; first | done | omega)) only [go_sem, Int.reduceToNat, Nat.reduceMul, Nat.reduceAdd, Nat.reduceSub, ↓EU_region, ↓EU_draw]
  repeat refine WPo_ob ?_
  refine (appSeq_ev g y L h it hbx hL).mono ?_
  rintro ⟨v, h2⟩ r
  simp (maxSteps := 1000000) (disch := first | decide | omega | (simp only [go_sem]; first | done | omega)) only [go_sem, Int.reduceToNat, Nat.reduceMul, Nat.reduceAdd, Nat.reduceSub, ↓EU_region, ↓EU_draw]
  exact r
end Go.Proofs.Ytbbdhpjkibbnkaa.EV
