/- Contracts: due queues: List. No condition. -/
import Derived.Test.YtbbdhpjkibbnkaaDq1
namespace Go.Proofs.Ytbbdhpjkibbnkaa.EV
open Go Go.Proofs
set_option linter.unusedVariables false
set_option linter.unusedSimpArgs false
set_option maxRecDepth 100000
set_option pp.deepTerms false
set_option pp.deepTerms.threshold 20
/-- whole, in order -/
noncomputable def wholeL (du : Int → Int) (L : List QI) : List RI := (srtQ L).map (ful du)
theorem wholeL_len (du : Int → Int) (L : List QI) : (wholeL du L).length = L.length := by unfold wholeL; rw [List.length_map, srtQ_len]
set_option maxHeartbeats 4000000 in
theorem dlist_ev {h : Heap} {B b dm : Nat} {lv : Value} {mb : Nat} {most st : Int} {L : List QI} {du : Int → Int} (q : DQ h B b dm lv mb most st L du) (hL : L.length < 800000) :
    WPo (EF Try.prog O0 11 [ptr B 0] h) fun r => OW rE 3 r.2 r.1 (wholeL du L) ∧ Fresh h.next r.1 ∧ Ext h r.2 := by
  rw [EF_body (O := O0) (by kernel_rfl) Try.func11 rfl (rs := [.tmp 2]) rfl (bad := []) (by kernel_rfl) _ _ (m := 20) rfl]
  have cB := q.cB
  have nBl := q.Bl
  have ndl := q.dl
  simp (maxSteps := 1000000) (disch := first | decide | omega | (simp only [go_sem]; first | done | omega)) only [go_sem, Int.reduceToNat, Nat.reduceMul, Nat.reduceAdd, Nat.reduceSub, ↓EU_region, ↓EU_draw, cB, all_fn]
  have x1 : Ext h (((h.push (.cells [ptr B 0] 0)).push (.cells [.slice none 0 1] 0)).push (.cells [ptr b 0] 0)) := by repeat (first | exact Ext.refl _ | assumption | refine Ext.push ?_ _ | refine Ext.set ?_ _ _ (by first | omega | (simp only [next_push, next_set]; omega)))
  have g0 : (((h.push (.cells [ptr B 0] 0)).push (.cells [.slice none 0 1] 0)).push (.cells [ptr b 0] 0)).get h.next = .cells [ptr B 0] 0 := by simp (maxSteps := 1000000) (disch := first | decide | omega | (simp only [go_sem]; first | done | omega)) only [go_sem, Int.reduceToNat, Nat.reduceMul, Nat.reduceAdd, Nat.reduceSub, ↓EU_region, ↓EU_draw]
  have g1 : (((h.push (.cells [ptr B 0] 0)).push (.cells [.slice none 0 1] 0)).push (.cells [ptr b 0] 0)).get (h.next + 1) = .cells [.slice none 0 1] 0 := by simp (maxSteps := 1000000) (disch := first | decide | omega | (simp only [go_sem]; first | done | omega)) only [go_sem, Int.reduceToNat, Nat.reduceMul, Nat.reduceAdd, Nat.reduceSub, ↓EU_region, ↓EU_draw]
  have g2 : (((h.push (.cells [ptr B 0] 0)).push (.cells [.slice none 0 1] 0)).push (.cells [ptr b 0] 0)).get (h.next + 2) = .cells [ptr b 0] 0 := by simp (maxSteps := 1000000) (disch := first | decide | omega | (simp only [go_sem]; first | done | omega)) only [go_sem, Int.reduceToNat, Nat.reduceMul, Nat.reduceAdd, Nat.reduceSub, ↓EU_region, ↓EU_draw]
  have hn1 : (((h.push (.cells [ptr B 0] 0)).push (.cells [.slice none 0 1] 0)).push (.cells [ptr b 0] 0)).next = h.next + 3 := by simp (maxSteps := 1000000) (disch := first | decide | omega | (simp only [go_sem]; first | done | omega)) only [go_sem, Int.reduceToNat, Nat.reduceMul, Nat.reduceAdd, Nat.reduceSub, ↓EU_region, ↓EU_draw]
  generalize ((h.push (.cells [ptr B 0] 0)).push (.cells [.slice none 0 1] 0)).push (.cells [ptr b 0] 0) = h1 at *
  have hit := fun bx hA => all_it q.qr (h.next + 2) bx hA hL
  have hWL : wholeL du L = (srtQ L).map (ful du) := rfl
  rw [hWL]
  have hmem : ∀ (i : Nat) (x : QI), (srtQ L)[i]? = some x → x ∈ L := fun i x hx => (srtQ_perm L).mem_iff.1 (List.mem_of_getElem? hx)
  have hML := srtQ_len L
  generalize srtQ L = M at *
  repeat refine WPo_ob ?_
  refine range_rule' stR (fun p h' => p = none ∧ (∃ v, h'.get (h.next + 1) = .cells [v] 0 ∧ OW rE 3 h' v (M.map (ful du)) ∧ Fresh (h1.next + 2) v) ∧ h'.get h1.next = .defd ∧ h1.next < h'.next ∧ Ext h h') stR_b ?_ ?_ ?_
  · intro LB hLB
    have g0 : ((h1.push .defd).push (LB .ready none)).get h.next = .cells [ptr B 0] 0 := by rw [get_push_old _ (by rw [next_push]; omega), get_push_old _ (by omega)]; exact g0
    have g1 : ((h1.push .defd).push (LB .ready none)).get (h.next + 1) = .cells [.slice none 0 1] 0 := by rw [get_push_old _ (by rw [next_push]; omega), get_push_old _ (by omega)]; exact g1
    have g2 : ((h1.push .defd).push (LB .ready none)).get (h.next + 2) = .cells [ptr b 0] 0 := by rw [get_push_old _ (by rw [next_push]; omega), get_push_old _ (by omega)]; exact g2
    have g3 : ((h1.push .defd).push (LB .ready none)).get h1.next = .defd := by rw [get_push_old _ (by rw [next_push]; omega)]; exact get_push_new _ _
    have g4 : ((h1.push .defd).push (LB .ready none)).get (h1.next + 1) = LB .ready none := by rw [← next_push h1 .defd]; exact get_push_new _ _
    have gx : Ext h1 ((h1.push .defd).push (LB .ready none)) := ((Ext.refl h1).push _).push _
    have gn : ((h1.push .defd).push (LB .ready none)).next = h1.next + 2 := by rw [next_push, next_push]
    generalize (h1.push .defd).push (LB .ready none) = hb at *
    have e1 : Ext h hb := x1.trans gx
    have hbx : BX [(h.next + 2, ptr b 0), (h.next, ptr B 0)] hb := BX.cons g2 (by omega) (BX.one g0 (by omega))
    refine (hit [(h.next + 2, ptr b 0), (h.next, ptr B 0)] List.mem_cons_self (yieldV (h1.next + 1)) (fun i h' W => h'.get (h1.next + 1) = LB .ready none ∧ hb.next ≤ h'.next ∧ ∃ v, h'.get (h.next + 1) = .cells [v] 0 ∧ OW rE 3 h' v ((M.take i).map (ful du)) ∧ Fresh hb.next v ∧ W = fun j => j = h.next + 1 ∨ j = h1.next + 1 ∨ blkOf v j) (fun _ _ => False) hb (fun j => j = h.next + 1 ∨ j = h1.next + 1 ∨ blkOf (.slice none 0 1) j) rfl ?_ FrI.none ?_ e1 hbx ⟨g4, Nat.le_refl _, _, g1, OW.nil, Fresh.nil _ _ _, rfl⟩ ?_).mono ?_
    · rintro i h' h'' W S ⟨k4, kn, v, k0, ov, fv, rfl⟩ md hd
      exact ⟨by rw [md.old _ (by omega) (hd _ (.inr (.inl rfl)))]; exact k4, Nat.le_trans kn md.le, v, by rw [md.old _ (by omega) (hd _ (.inl rfl))]; exact k0, ov.mod md fun j hj => hd j (.inr (.inr hj)), fv, rfl⟩
    · rintro i h' W ⟨k4, kn, v, k0, ov, fv, rfl⟩ j hj
      have hq : h.next + 1 ≤ j ∧ j < h'.next ∧ j ≠ h.next + 2 := by
        rcases hj with e | e | e
        · omega
        · omega
        · have := fv j e
          have := ov.lt e
          omega
      refine ⟨by omega, hq.2.1, fun p hp e => ?_⟩
      rcases List.mem_cons.1 hp with rfl | hp
      · exact hq.2.2 e
      · rw [List.mem_singleton] at hp
        subst hp
        simp only at e
        omega
    · rintro i x h' W hx ⟨k4, kn, v, k0, ov, fv, rfl⟩ xx bb
      have hi := (List.getElem?_eq_some_iff.1 hx).1
      have tl : ((M.take i).map (ful du)).length = i := by rw [List.length_map, List.length_take]; omega
      have hnx : (M.take (i + 1)).map (ful du) = (M.take i).map (ful du) ++ [ful du x] := by rw [List.take_add_one, hx, List.map_append]; rfl
      have vlt : ∀ j, blkOf v j → j < h'.next := fun j hj => ov.lt hj
      have hnn : h.next < h'.next := by omega
      have kB := (bb (h.next, ptr B 0) (List.mem_cons_of_mem _ List.mem_cons_self)).1
      unfold argI
      refine round_rule2 hLB k4 rfl (tm1 := ?_) (hA := h'.push (.cells [.int .i64 x.key, .int .i64 x.id] 0)) ?_ (by rw [get_push_old _ (by omega)]; exact k4) ?_
      rotate_left
      · rw [setP2, EC_EU (bad := []) (by kernel_rfl)]
        simp (maxSteps := 1000000) (disch := first | decide | omega | (simp only [go_sem]; first | done | omega)) only [go_sem, Int.reduceToNat, Nat.reduceMul, Nat.reduceAdd, Nat.reduceSub, ↓EU_region, ↓EU_draw]
        rfl
      · rw [EC_EU (bad := [4]) (by kernel_rfl)]
        have kx : ((h'.push (.cells [.int .i64 x.key, .int .i64 x.id] 0)).set (h1.next + 1) (LB .busy none)).get h'.next = .cells [.int .i64 x.key, .int .i64 x.id] 0 := by rw [get_set_ne _ (by omega)]; exact get_push_new _ _
        have kBo : ((h'.push (.cells [.int .i64 x.key, .int .i64 x.id] 0)).set (h1.next + 1) (LB .busy none)).get h.next = .cells [ptr B 0] 0 := by rw [get_set_ne _ (by omega), get_push_old _ hnn]; exact kB
        have k0' : ((h'.push (.cells [.int .i64 x.key, .int .i64 x.id] 0)).set (h1.next + 1) (LB .busy none)).get (h.next + 1) = .cells [v] 0 := by rw [get_set_ne _ (by omega), get_push_old _ (by omega)]; exact k0
        have k4' : ((h'.push (.cells [.int .i64 x.key, .int .i64 x.id] 0)).set (h1.next + 1) (LB .busy none)).get (h1.next + 1) = LB .busy none := get_set_same _ _ _
        have m' : Mod (fun j => j = h.next + 1 ∨ j = h1.next + 1 ∨ blkOf v j) h' ((h'.push (.cells [.int .i64 x.key, .int .i64 x.id] 0)).set (h1.next + 1) (LB .busy none)) := ((Mod.refl _ _).push _).set _ _ (fun _ => .inr (.inl rfl))
        have n2 : ((h'.push (.cells [.int .i64 x.key, .int .i64 x.id] 0)).set (h1.next + 1) (LB .busy none)).next = h'.next + 1 := by rw [next_set, next_push]
        have xx2 : Ext h ((h'.push (.cells [.int .i64 x.key, .int .i64 x.id] 0)).set (h1.next + 1) (LB .busy none)) := (xx.push _).set _ _ (by omega)
        have ov' : OW rE 3 ((h'.push (.cells [.int .i64 x.key, .int .i64 x.id] 0)).set (h1.next + 1) (LB .busy none)) v ((M.take i).map (ful du)) := (ov.ext ((Ext.refl h').push _)).mod (Mod.set (S := fun j => j = h1.next + 1) (Mod.refl _ _) _ _ (fun _ => rfl)) (fun j hj q => by have := fv j hj; omega)
        generalize (h'.push (.cells [.int .i64 x.key, .int .i64 x.id] 0)).set (h1.next + 1) (LB .busy none) = h2 at *
        obtain ⟨va, vc, hve⟩ := ov'.val
        have vq := ov'.sl.veq
        have q2 := q.ext xx2
        obtain ⟨es, clk, f, hm, mr, hf⟩ := q2.mp
        have hit2 := item_ev (B := B) (b := b) q2.Bl q2.dl q2.cB hm mr x (hf x (hmem i x hx))
        unfold qE at hit2
        simp (maxSteps := 1000000) (disch := first | decide | omega | (simp only [go_sem]; first | done | omega)) only [go_sem, Int.reduceToNat, Nat.reduceMul, Nat.reduceAdd, Nat.reduceSub]
        rw [EU_bad _ _ rfl, EC_tab (tab := [(false, (some (0, 2))), (false, none), (false, none), (true, none), (true, none), (true, none), (true, none)]) (by kernel_rfl)]
        simp (maxSteps := 1000000) (disch := first | decide | omega | (simp only [go_sem]; first | done | omega)) only [go_sem, Int.reduceToNat, Nat.reduceMul, Nat.reduceAdd, Nat.reduceSub, ↓EU_region, ↓EU_draw, k0', kx, kBo, vq]
        repeat refine WPo_ob ?_
        refine hit2.bind fun h2b x2b => ?_
        have k0b := (x2b.old _ (by omega)).trans k0'
        have kxb := (x2b.old _ (by omega)).trans kx
        have kBb := (x2b.old _ (by omega)).trans kBo
        have k4b := (x2b.old _ (by omega)).trans k4'
        have n2b := x2b.le
        have m'b := m'.trans (x2b.mod _)
        have ovb := ov'.ext x2b
        have hlit : SL rE 3 (h2b.push (.cells [.int .i64 x.key, .int .i64 (du x.id), .int .i64 x.id] 3)) (.slice (some ⟨h2b.next, 0, none⟩) 1 3) [ful du x] := (OW.lit rE_len h2b [ful du x]).sl
        simp (maxSteps := 1000000) (disch := first | decide | omega | (simp only [go_sem]; first | done | omega)) only [go_sem, Int.reduceToNat, Nat.reduceMul, Nat.reduceAdd, Nat.reduceSub, ↓EU_region, ↓EU_draw, k0', k0b, kxb, kBb, vq]
        repeat refine WPo_ob ?_
        refine append_gr (e := rE) (l := (M.take i).map (ful du)) (l' := [ful du x]) fc_ap_32_32 rE_len (by decide) rE_scal (ovb.ext ((Ext.refl h2b).push _)) hlit (by simp only [List.length_cons, List.length_nil]; omega) (by simp only [List.length_cons, List.length_nil]; omega) fun v3 h3 o3 gr => ?_
        rw [← hnx] at o3
        have hn3 := gr.le
        rw [next_push] at hn3
        have nb1 : ¬ blkOf v (h.next + 1) := fun q => by have := fv _ q; omega
        have nb2 : ¬ blkOf v (h1.next + 1) := fun q => by have := fv _ q; omega
        have k03 : h3.get (h.next + 1) = .cells [v] 0 := by rw [gr.old _ (by rw [next_push]; omega) nb1, get_push_old _ (by omega)]; exact k0b
        have k43 : h3.get (h1.next + 1) = LB .busy none := by rw [gr.old _ (by rw [next_push]; omega) nb2, get_push_old _ (by omega)]; exact k4b
        have f3 : Fresh hb.next v3 := fun j hj => by
          rcases gr.src j hj with q | q
          · exact fv j q
          · rw [next_push] at q; omega
        have m3 : Mod (fun j => j = h.next + 1 ∨ j = h1.next + 1 ∨ blkOf v j) h' h3 := (m'b.push (.cells [.int .i64 x.key, .int .i64 (du x.id), .int .i64 x.id] 3)).drop (Mod.mono (S := blkOf v) ⟨gr.le, fun j hj hq => gr.old j hj hq⟩ fun j _ q => .inl (.inr (.inr q)))
        have w3 : ∀ j, blkOf v3 j → blkOf v j ∨ h'.next ≤ j := fun j hj => by
          rcases gr.src j hj with q | q
          · exact .inl q
          · rw [next_push] at q; exact .inr (by omega)
        obtain ⟨wa, wc, rfl⟩ := o3.val
        simp (maxSteps := 1000000) (disch := first | decide | omega | (simp only [go_sem]; first | done | omega)) only [go_sem, Int.reduceToNat, Nat.reduceMul, Nat.reduceAdd, Nat.reduceSub, ↓EU_region, ↓EU_draw, k03, k0', k0b, vq]
        refine ⟨k43, .inl ⟨trivial, .inl ⟨rfl, (fun j => j = h.next + 1 ∨ j = h1.next + 1 ∨ blkOf _ j), ⟨get_set_same _ _ _, ?_, _, (get_set_ne _ (by omega)).trans (get_set_same _ _ _), ?_, f3, rfl⟩, ?_⟩, (m3.set _ _ (fun _ => .inl rfl)).set _ _ (fun _ => .inr (.inl rfl))⟩⟩
        · show hb.next ≤ ((h3.set _ _).set _ _).next
          rw [next_set, next_set]; omega
        · exact (o3.mod (Mod.set (S := fun j => j = h.next + 1) (Mod.refl _ _) _ _ (fun _ => rfl)) (fun j hj q => by have := f3 j hj; omega)).mod (Mod.set (S := fun j => j = h1.next + 1) (Mod.refl _ _) _ _ (fun _ => rfl)) (fun j hj q => by have := f3 j hj; omega)
        · rintro j (e | e | e)
          · exact .inl (.inl e)
          · exact .inl (.inr (.inl e))
          · rcases w3 j e with q | q
            · exact .inl (.inr (.inr q))
            · exact .inr q
    · rintro ⟨v, h'⟩ ⟨r, md⟩
      simp only at r md
      rcases r with ⟨W, ⟨k4, kn, v', k0, ov, fv, rfl⟩, _⟩ | ⟨W, r, _⟩
      · rw [List.take_length] at ov
        have k4 : h'.get (h1.next + 1) = LB .ready none := k4
        have kn : hb.next ≤ h'.next := kn
        have k0 : h'.get (h.next + 1) = .cells [v'] 0 := k0
        have ov : OW rE 3 h' v' (M.map (ful du)) := ov
        have nW : ∀ j, j < hb.next → j ≠ h.next + 1 → j ≠ h1.next + 1 → h'.get j = hb.get j := fun j hj h1 h2 => md.old j hj (fun e => by
          rcases e with e | e | e
          · exact h1 e
          · exact h2 e
          · exact e.elim)
        refine ⟨none, k4, rfl, ⟨v', by rw [get_set_ne _ (by omega)]; exact k0, ov.mod (Mod.set (S := fun j => j = h1.next + 1) (Mod.refl _ _) _ _ (fun _ => rfl)) (fun j hj q => by have := fv j hj; omega), by rw [← gn]; exact fv⟩, ?_, by show _ < (h'.set _ _).next; rw [next_set]; omega, ?_⟩
        · rw [get_set_ne _ (by omega), nW _ (by omega) (by omega) (by omega)]; exact g3
        · exact ⟨by show _ ≤ (h'.set _ _).next; rw [next_set]; have := e1.le; omega, fun j hj => by rw [get_set_ne _ (by omega), nW _ (by omega) (by omega) (by omega)]; exact e1.old j hj⟩
      · exact r.elim
  · rintro h' ⟨_, ⟨v, k0, ov, fv⟩, k3, hn, xx⟩
    obtain ⟨va, vc, rfl⟩ := ov.val
    simp (maxSteps := 1000000) (disch := first | decide | omega | (simp only [go_sem]; first | done | omega)) only [go_sem, Int.reduceToNat, Nat.reduceMul, Nat.reduceAdd, Nat.reduceSub, ↓EU_region, ↓EU_draw, k0]
    rw [leaveK_dr _ _ _ _ _ k3]
    simp (maxSteps := 1000000) (disch := first | decide | omega | (simp only [go_sem]; first | done | omega)) only [go_sem, Int.reduceToNat, Nat.reduceMul, Nat.reduceAdd, Nat.reduceSub, ↓EU_region, ↓EU_draw]
    exact ⟨ov.mod (Mod.set (S := fun j => j = h1.next) (Mod.refl _ _) _ _ (fun _ => rfl)) (fun j hj q => by have := fv j hj; omega), fv.mono (by omega), xx.set h1.next _ (by omega)⟩
  · rintro c h' ⟨q, _⟩
    cases q
end Go.Proofs.Ytbbdhpjkibbnkaa.EV
