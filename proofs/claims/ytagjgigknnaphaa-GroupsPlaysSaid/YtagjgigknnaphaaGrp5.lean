/- Contracts: groups: Chain. No condition. -/
import Derived.Test.YtagjgigknnaphaaGrp4
namespace Go.Proofs.Ytagjgigknnaphaa.EV
open Go Go.Proofs
set_option linter.unusedVariables false
set_option linter.unusedSimpArgs false
set_option maxRecDepth 100000
set_option pp.deepTerms false
set_option pp.deepTerms.threshold 20
theorem i64_len (x : Int) : (intE .i64 x).length = 1 := rfl
theorem i64_scal (x : Int) : (intE .i64 x).all scal = true := rfl
set_option maxHeartbeats 4000000 in
theorem appSeq_ev (gl : List Gp) (B ib gb : Nat) (id : Int) (l : List Int) (hp : PA gl id l) (hl : l.length ≤ 1000) (h : Heap) (g : GR h B gl) (hib : h.get ib = .cells [.int .i64 id] 0) (hgb : h.get gb = .cells [ptr B 0] 0) (nib : ib < h.next) (ngb : gb < h.next) :
    WPo (EF Try.prog O0 26 [.slice none 0 1, .func (.func 27) ⟨[]⟩ ⟨[ptr ib 0, ptr gb 0]⟩] h) fun q => OW (intE .i64) 1 q.2 q.1 l ∧ Fresh h.next q.1 ∧ Ext h q.2 := by
  rw [EF_body (O := O0) (by kernel_rfl) Try.func26 rfl (rs := [.tmp 4]) rfl (bad := []) (by kernel_rfl) _ _ (m := 13) rfl]
  simp (maxSteps := 1000000) (disch := first | decide | omega | (simp only [go_sem]; first | done | omega)) only [go_sem, Int.reduceToNat, Nat.reduceMul, Nat.reduceAdd, Nat.reduceSub, ↓EU_region, ↓EU_draw]
  have x1 : Ext h (h.push (.cells [.slice none 0 1] 0)) := by repeat (first | exact Ext.refl _ | assumption | refine Ext.push ?_ _ | refine Ext.set ?_ _ _ (by first | omega | (simp only [next_push, next_set]; omega)))
  have c0 : (h.push (.cells [.slice none 0 1] 0)).get h.next = .cells [.slice none 0 1] 0 := get_push_new _ _
  have hn1 : (h.push (.cells [.slice none 0 1] 0)).next = h.next + 1 := next_push _ _
  have ci : (h.push (.cells [.slice none 0 1] 0)).get ib = .cells [.int .i64 id] 0 := by rw [get_push_old _ nib]; exact hib
  have cg : (h.push (.cells [.slice none 0 1] 0)).get gb = .cells [ptr B 0] 0 := by rw [get_push_old _ ngb]; exact hgb
  generalize h.push (.cells [.slice none 0 1] 0) = h1 at *
  repeat refine WPo_ob ?_
  refine range_rule' stR (fun p h' => p = none ∧ (∃ v, h'.get h.next = .cells [v] 0 ∧ OW (intE .i64) 1 h' v l ∧ Fresh (h1.next + 2) v) ∧ h'.get h1.next = .defd ∧ h1.next < h'.next ∧ Ext h h') stR_b ?_ ?_ ?_
  · intro LB hLB
    have g0 : ((h1.push .defd).push (LB .ready none)).get h.next = .cells [.slice none 0 1] 0 := by rw [get_push_old _ (by rw [next_push]; omega), get_push_old _ (by omega)]; exact c0
    have g1 : ((h1.push .defd).push (LB .ready none)).get gb = .cells [ptr B 0] 0 := by rw [get_push_old _ (by rw [next_push]; omega), get_push_old _ (by omega)]; exact cg
    have g2 : ((h1.push .defd).push (LB .ready none)).get ib = .cells [.int .i64 id] 0 := by rw [get_push_old _ (by rw [next_push]; omega), get_push_old _ (by omega)]; exact ci
    have g3 : ((h1.push .defd).push (LB .ready none)).get h1.next = .defd := by rw [get_push_old _ (by rw [next_push]; omega)]; exact get_push_new _ _
    have g4 : ((h1.push .defd).push (LB .ready none)).get (h1.next + 1) = LB .ready none := by rw [← next_push h1 .defd]; exact get_push_new _ _
    have gx : Ext h1 ((h1.push .defd).push (LB .ready none)) := ((Ext.refl h1).push _).push _
    have gn : ((h1.push .defd).push (LB .ready none)).next = h1.next + 2 := by rw [next_push, next_push]
    have gg := (g.ext x1).ext gx
    generalize (h1.push .defd).push (LB .ready none) = hb at *
    have gB := g.2.2
    have e1 : Ext h hb := x1.trans gx
    refine (walk_ev gl B ib gb id l hp (by omega) (yieldV (h1.next + 1)) (fun i h' => Mod (fun j => j = h.next ∨ j = h1.next + 1) hb h' ∧ h'.get (h1.next + 1) = LB .ready none ∧ ∃ v, h'.get h.next = .cells [v] 0 ∧ OW (intE .i64) 1 h' v (l.take i) ∧ Fresh hb.next v) (fun _ => False) hb ?_ g2 ⟨Mod.refl _ _, g4, _, g0, OW.nil, Fresh.nil _ _ _⟩ ?_).mono ?_
    · rintro i h' ⟨m, k4, k5⟩
      have hm := m.le
      exact ⟨⟨by rw [m.old' (by omega) (by omega)]; exact gg.1, gg.2.1, by omega⟩, by rw [m.old' (by omega) (by omega)]; exact g1⟩
    · rintro i x h' hx ⟨m, k4, v, k0, ov, fv⟩
      have hm := m.le
      have hil := (List.getElem?_eq_some_iff.1 hx).1
      have hlt : (l.take i).length = i := by rw [List.length_take]; omega
      refine round_rule' hLB k4 rfl (tm1 := ?_) ?_ ?_
      rotate_left
      · rw [setP1, EC_EU (bad := []) (by kernel_rfl)]
        simp (maxSteps := 1000000) (disch := first | decide | omega | (simp only [go_sem]; first | done | omega)) only [go_sem, Int.reduceToNat, Nat.reduceMul, Nat.reduceAdd, Nat.reduceSub, ↓EU_region, ↓EU_draw]
        rfl
      · rw [EC_EU (bad := []) (by kernel_rfl)]
        have k0' : (h'.set (h1.next + 1) (LB .busy none)).get h.next = .cells [v] 0 := by rw [get_set_ne _ (by omega)]; exact k0
        have k4' : (h'.set (h1.next + 1) (LB .busy none)).get (h1.next + 1) = LB .busy none := get_set_same _ _ _
        have m' : Mod (fun j => j = h.next ∨ j = h1.next + 1) hb (h'.set (h1.next + 1) (LB .busy none)) := m.set _ _ (fun _ => .inr rfl)
        have hn' : (h'.set (h1.next + 1) (LB .busy none)).next = h'.next := next_set _ _ _
        have ov' : OW (intE .i64) 1 (h'.set (h1.next + 1) (LB .busy none)) v (l.take i) := ov.mod (Mod.set (S := fun j => j = h1.next + 1) (Mod.refl _ _) _ _ (fun _ => rfl)) (fun j hj q => by have := fv j hj; omega)
        generalize h'.set (h1.next + 1) (LB .busy none) = h2 at *
        obtain ⟨va, vc, hve⟩ := ov'.val
        have hnx : l.take (i + 1) = l.take i ++ [x] := by rw [List.take_add_one, hx]; rfl
        simp (maxSteps := 1000000) (disch := first | decide | omega | (simp only [go_sem]; first | done | omega)) only [go_sem, Int.reduceToNat, Nat.reduceMul, Nat.reduceAdd, Nat.reduceSub, ↓EU_region, ↓EU_draw, k0']
        repeat refine WPo_ob ?_
        refine append_gr (e := intE .i64) (l := l.take i) (l' := [x]) fc_ap_22_22 i64_len (by decide) i64_scal (ov'.ext ((Ext.refl h2).push _)) (OW.lit i64_len h2 [x]).sl (by simp only [List.length_cons, List.length_nil]; omega) (by simp only [List.length_cons, List.length_nil]; omega) fun v3 h3 o3 gr => ?_
        rw [← hnx] at o3
        have hn3 := gr.le
        rw [next_push] at hn3
        have nb1 : ¬ blkOf v h.next := fun q => by have := fv _ q; omega
        have nb2 : ¬ blkOf v (h1.next + 1) := fun q => by have := fv _ q; omega
        have k03 : h3.get h.next = .cells [v] 0 := by rw [gr.old _ (by rw [next_push]; omega) nb1, get_push_old _ (by omega)]; exact k0'
        have k43 : h3.get (h1.next + 1) = LB .busy none := by rw [gr.old _ (by rw [next_push]; omega) nb2, get_push_old _ (by omega)]; exact k4'
        have f3 : Fresh hb.next v3 := fun j hj => by
          rcases gr.src j hj with q | q
          · exact fv j q
          · rw [next_push] at q; omega
        have m3 : Mod (fun j => j = h.next ∨ j = h1.next + 1) hb h3 := (m'.push (.cells [.int .i64 x] 1)).drop (Mod.mono (S := blkOf v) ⟨gr.le, fun j hj hq => gr.old j hj hq⟩ fun j _ q => .inr (fv j q))
        obtain ⟨wa, wc, rfl⟩ := o3.val
        simp (maxSteps := 1000000) (disch := first | decide | omega | (simp only [go_sem]; first | done | omega)) only [go_sem, Int.reduceToNat, Nat.reduceMul, Nat.reduceAdd, Nat.reduceSub, ↓EU_region, ↓EU_draw, k03]
        refine ⟨k43, .inl ⟨trivial, .inl ⟨trivial, (m3.set _ _ (fun _ => .inl rfl)).set _ _ (fun _ => .inr rfl), trivial, _, rfl, ?_, f3⟩⟩⟩
        refine (o3.mod (Mod.set (S := fun j => j = h.next) (Mod.refl _ _) _ _ (fun _ => rfl)) (fun j hj q => by have := f3 j hj; omega)).mod (Mod.set (S := fun j => j = h1.next + 1) (Mod.refl _ _) _ _ (fun _ => rfl)) (fun j hj q => by have := f3 j hj; omega)
    · rintro ⟨v, h'⟩ (⟨m, k4, v', k0, ov, fv⟩ | k)
      · have hm := m.le
        simp only at k4 k0 ov
        rw [List.take_length] at ov
        refine ⟨none, k4, rfl, ⟨v', by rw [get_set_ne _ (by omega)]; exact k0, ov.mod (Mod.set (S := fun j => j = h1.next + 1) (Mod.refl _ _) _ _ (fun _ => rfl)) (fun j hj q => by have := fv j hj; omega), by rw [← gn]; exact fv⟩, ?_, by rw [next_set]; omega, ?_⟩
        · rw [get_set_ne _ (by omega), m.old' (by omega) (by omega)]; exact g3
        · exact Mod.ext ((e1.mod (fun _ => False)).drop ((m.set _ _ (fun _ => .inr rfl)).mono fun i _ q => .inr (by omega)))
      · exact k.elim
  · rintro h' ⟨_, ⟨v, k0, ov, fv⟩, k3, hn, xx⟩
    obtain ⟨va, vc, rfl⟩ := ov.val
    simp (maxSteps := 1000000) (disch := first | decide | omega | (simp only [go_sem]; first | done | omega)) only [go_sem, Int.reduceToNat, Nat.reduceMul, Nat.reduceAdd, Nat.reduceSub, ↓EU_region, ↓EU_draw, k0]
    rw [leaveK_dr _ _ _ _ _ k3]
    simp (maxSteps := 1000000) (disch := first | decide | omega | (simp only [go_sem]; first | done | omega)) only [go_sem, Int.reduceToNat, Nat.reduceMul, Nat.reduceAdd, Nat.reduceSub, ↓EU_region, ↓EU_draw]
    exact ⟨ov.mod (Mod.set (S := fun j => j = h1.next) (Mod.refl _ _) _ _ (fun _ => rfl)) (fun j hj q => by have := fv j hj; omega), fv.mono (by omega), xx.set h1.next _ (by omega)⟩
  · rintro c h' ⟨q, _⟩
    cases q
theorem chain_ev (gl : List Gp) (B : Nat) (id : Int) (l : List Int) (hp : PA gl id l) (hl : l.length ≤ 1000) (h : Heap) (g : GR h B gl) :
    WPo (EF Try.prog O0 10 [ptr B 0, .int .i64 id] h) fun q => OW (intE .i64) 1 q.2 q.1 l ∧ Fresh h.next q.1 ∧ Ext h q.2 := by
  rw [EF_body (O := O0) (by kernel_rfl) Try.func10 rfl (rs := [.tmp 4]) rfl (bad := []) (by kernel_rfl) _ _ (m := 9) rfl]
  simp (maxSteps := 1000000) (disch := first | decide | omega | (simp only [go_sem]; first | done | omega)) only [go_sem, Int.reduceToNat, Nat.reduceMul, Nat.reduceAdd, Nat.reduceSub, ↓EU_region, ↓EU_draw]
  repeat refine WPo_ob ?_
  refine (path_ev B id h).mono ?_
  rintro _ rfl
  have x1 : Ext h ((h.push (.cells [ptr B 0] 0)).push (.cells [.int .i64 id] 0)) := by repeat (first | exact Ext.refl _ | assumption | refine Ext.push ?_ _ | refine Ext.set ?_ _ _ (by first | omega | (simp only [next_push, next_set]; omega)))
  have c1 : ((h.push (.cells [ptr B 0] 0)).push (.cells [.int .i64 id] 0)).get h.next = .cells [ptr B 0] 0 := by simp (maxSteps := 1000000) (disch := first | decide | omega | (simp only [go_sem]; first | done | omega)) only [go_sem, Int.reduceToNat, Nat.reduceMul, Nat.reduceAdd, Nat.reduceSub, ↓EU_region, ↓EU_draw]
  have c2 : ((h.push (.cells [ptr B 0] 0)).push (.cells [.int .i64 id] 0)).get (h.next + 1) = .cells [.int .i64 id] 0 := by simp (maxSteps := 1000000) (disch := first | decide | omega | (simp only [go_sem]; first | done | omega)) only [go_sem, Int.reduceToNat, Nat.reduceMul, Nat.reduceAdd, Nat.reduceSub, ↓EU_region, ↓EU_draw]
  have hn1 : ((h.push (.cells [ptr B 0] 0)).push (.cells [.int .i64 id] 0)).next = h.next + 2 := by simp (maxSteps := 1000000) (disch := first | decide | omega | (simp only [go_sem]; first | done | omega)) only [go_sem, Int.reduceToNat, Nat.reduceMul, Nat.reduceAdd, Nat.reduceSub, ↓EU_region, ↓EU_draw]
  generalize (h.push (.cells [ptr B 0] 0)).push (.cells [.int .i64 id] 0) = h1 at *
  simp (maxSteps := 1000000) (disch := first | decide | omega | (simp only [go_sem]; first | done | omega)) only [go_sem, Int.reduceToNat, Nat.reduceMul, Nat.reduceAdd, Nat.reduceSub, ↓EU_region, ↓EU_draw]
  repeat refine WPo_ob ?_
  have hcol : WPo (EF Try.prog O0 23 [.func (.func 27) ⟨[]⟩ ⟨[ptr (h.next + 1) 0, ptr h.next 0]⟩] h1) fun q => OW (intE .i64) 1 q.2 q.1 l ∧ Fresh h1.next q.1 ∧ Ext h1 q.2 := by
    rw [EF_body (O := O0) (by kernel_rfl) Try.func23 rfl (rs := [.tmp 2]) rfl (bad := []) (by kernel_rfl) _ _ (m := 5) rfl]
    simp (maxSteps := 1000000) (disch := first | decide | omega | (simp only [go_sem]; first | done | omega)) only [go_sem, Int.reduceToNat, Nat.reduceMul, Nat.reduceAdd, Nat.reduceSub, ↓EU_region, ↓EU_draw]
    repeat refine WPo_ob ?_
    refine (appSeq_ev gl B (h.next + 1) h.next id l hp hl h1 (g.ext x1) c2 c1 (by omega) (by omega)).mono ?_
    rintro ⟨v, h2⟩ r
    simp (maxSteps := 1000000) (disch := first | decide | omega | (simp only [go_sem]; first | done | omega)) only [go_sem, Int.reduceToNat, Nat.reduceMul, Nat.reduceAdd, Nat.reduceSub, ↓EU_region, ↓EU_draw]
    exact r
  refine hcol.mono ?_
  rintro ⟨v, h2⟩ ⟨o2, f2, x2⟩
  simp only at o2 f2 x2
  simp (maxSteps := 1000000) (disch := first | decide | omega | (simp only [go_sem]; first | done | omega)) only [go_sem, Int.reduceToNat, Nat.reduceMul, Nat.reduceAdd, Nat.reduceSub, ↓EU_region, ↓EU_draw]
  exact ⟨o2, f2.mono (by omega), x1.trans x2⟩
end Go.Proofs.Ytagjgigknnaphaa.EV
