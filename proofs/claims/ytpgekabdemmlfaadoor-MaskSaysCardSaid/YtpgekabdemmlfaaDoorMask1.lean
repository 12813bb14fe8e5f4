/- Contracts: masks: List. No condition. -/
import Derived.Test.YtpgekabdemmlfaaDoorLoad1
namespace Go.Proofs.YtpgekabdemmlfaaDoor.EV
open Go Go.Proofs
set_option linter.unusedVariables false
set_option linter.unusedSimpArgs false
set_option maxRecDepth 100000
set_option pp.deepTerms false
set_option pp.deepTerms.threshold 20
noncomputable def stR (p : Option Code) : LoopState := match p with
  | none => .ready
  | some _ => .done
theorem stR_b (p : Option Code) : isBusy (stR p) = false := by cases p <;> rfl
theorem setP1 (n : Nat) (t : Tmp) (v : Value) (tm : Fr) : setParams n ([t].zip [v]) tm = Fr.put n tm t v := rfl
theorem Mod.old' {S : Nat → Prop} {a b : Heap} (m : Mod S a b) {i : Nat} (hi : i < a.next) (hs : ¬ S i) : b.get i = a.get i := m.old i hi hs
theorem i64_len (x : Int) : (intE .i64 x).length = 1 := rfl
theorem i64_scal (x : Int) : (intE .i64 x).all scal = true := rfl
noncomputable def cores (M i : Nat) : List Nat := (List.range i).filter (hasN M)
theorem cores_t {M i : Nat} (h : hasN M i = true) : cores M (i + 1) = cores M i ++ [i] := by
  unfold cores
  rw [List.range_succ, List.filter_append]; simp [h]
theorem cores_f {M i : Nat} (h : hasN M i = false) : cores M (i + 1) = cores M i := by
  unfold cores
  rw [List.range_succ, List.filter_append]; simp [h]
theorem cores_len (M i : Nat) : (cores M i).length ≤ i := by
  have := List.length_filter_le (hasN M) (List.range i)
  rw [List.length_range] at this
  exact this
noncomputable def coresI (M i : Nat) : List Int := (cores M i).map fun (n : Nat) => (n : Int)
theorem coresI_t {M i : Nat} (h : hasN M i = true) : coresI M (i + 1) = coresI M i ++ [(i : Int)] := by
  unfold coresI
  rw [cores_t h, List.map_append]; rfl
theorem coresI_f {M i : Nat} (h : hasN M i = false) : coresI M (i + 1) = coresI M i := by
  unfold coresI
  rw [cores_f h]
theorem coresI_len (M i : Nat) : (coresI M i).length ≤ i := by
  unfold coresI
  rw [List.length_map]
  exact cores_len M i
set_option maxHeartbeats 4000000 in
theorem appSeq_ev (M : Nat) (hM : M < 65536) (A : Nat) (h : Heap) (hA : h.get A = .cells [.int .u16 (M : Int)] 0) (nA : A < h.next) :
    WPo (EF Tryd.prog O0 33 [.slice none 0 1, .func (.func 27) ⟨[]⟩ ⟨[ptr A 0]⟩] h) fun q => OW (intE .i64) 1 q.2 q.1 (coresI M 16) ∧ Fresh h.next q.1 ∧ Ext h q.2 := by
  rw [EF_body (O := O0) (by kernel_rfl) Tryd.func33 rfl (rs := [.tmp 4]) rfl (bad := []) (by kernel_rfl) _ _ (m := 13) rfl]
  simp (maxSteps := 1000000) (disch := first | decide | omega | (simp only [go_sem]; first | done | omega)) only [go_sem, Int.reduceToNat, Nat.reduceMul, Nat.reduceAdd, Nat.reduceSub, ↓EU_region, ↓EU_draw]
  have x1 : Ext h (h.push (.cells [.slice none 0 1] 0)) := by repeat (first | exact Ext.refl _ | assumption | refine Ext.push ?_ _ | refine Ext.set ?_ _ _ (by first | omega | (simp only [next_push, next_set]; omega)))
  have c0 : (h.push (.cells [.slice none 0 1] 0)).get h.next = .cells [.slice none 0 1] 0 := get_push_new _ _
  have hn1 : (h.push (.cells [.slice none 0 1] 0)).next = h.next + 1 := next_push _ _
  have cA : (h.push (.cells [.slice none 0 1] 0)).get A = .cells [.int .u16 (M : Int)] 0 := by rw [get_push_old _ nA]; exact hA
  generalize h.push (.cells [.slice none 0 1] 0) = h1 at *
  repeat refine WPo_ob ?_
  refine range_rule' stR (fun p h' => p = none ∧ (∃ v, h'.get h.next = .cells [v] 0 ∧ OW (intE .i64) 1 h' v (coresI M 16) ∧ Fresh (h1.next + 2) v) ∧ h'.get h1.next = .defd ∧ h1.next < h'.next ∧ Ext h h') stR_b ?_ ?_ ?_
  · intro LB hLB
    have g0 : ((h1.push .defd).push (LB .ready none)).get h.next = .cells [.slice none 0 1] 0 := by rw [get_push_old _ (by rw [next_push]; omega), get_push_old _ (by omega)]; exact c0
    have g1 : ((h1.push .defd).push (LB .ready none)).get A = .cells [.int .u16 (M : Int)] 0 := by rw [get_push_old _ (by rw [next_push]; omega), get_push_old _ (by omega)]; exact cA
    have g3 : ((h1.push .defd).push (LB .ready none)).get h1.next = .defd := by rw [get_push_old _ (by rw [next_push]; omega)]; exact get_push_new _ _
    have g4 : ((h1.push .defd).push (LB .ready none)).get (h1.next + 1) = LB .ready none := by rw [← next_push h1 .defd]; exact get_push_new _ _
    have gx : Ext h1 ((h1.push .defd).push (LB .ready none)) := ((Ext.refl h1).push _).push _
    have gn : ((h1.push .defd).push (LB .ready none)).next = h1.next + 2 := by rw [next_push, next_push]
    generalize (h1.push .defd).push (LB .ready none) = hb at *
    have e1 : Ext h hb := x1.trans gx
    refine (all1_ev M hM A (yieldV (h1.next + 1)) (fun i h' => Mod (fun j => j = h.next ∨ j = h1.next + 1) hb h' ∧ h'.get (h1.next + 1) = LB .ready none ∧ ∃ v, h'.get h.next = .cells [v] 0 ∧ OW (intE .i64) 1 h' v (coresI M i) ∧ Fresh hb.next v) (fun _ => False) hb ?_ ⟨Mod.refl _ _, g4, _, g0, OW.nil, Fresh.nil _ _ _⟩ ?_ ?_).mono ?_
    · rintro i h' ⟨m, k4, k5⟩
      rw [m.old' (by omega) (by omega)]
      exact g1
    · rintro i h' hi hb ⟨m, k4, v, k0, ov, fv⟩
      rw [← coresI_f hb] at ov
      exact ⟨m, k4, v, k0, ov, fv⟩
    · rintro i h' hi hhas ⟨m, k4, v, k0, ov, fv⟩
      have hm := m.le
      have hlt := coresI_len M i
      obtain ⟨x, hxi⟩ : ∃ x : Int, x = (i : Int) := ⟨_, rfl⟩
      have hnx : coresI M (i + 1) = coresI M i ++ [x] := by rw [hxi]; exact coresI_t hhas
      rw [← hxi]
      refine round_rule' hLB k4 rfl (tm1 := ?_) ?_ ?_
      rotate_left
      · rw [setP1, EC_EU (bad := []) (by kernel_rfl)]
        simp (maxSteps := 1000000) (disch := first | decide | omega | (simp only [go_sem]; first | done | omega)) only [go_sem, Int.reduceToNat, Nat.reduceMul, Nat.reduceAdd, Nat.reduceSub, ↓EU_region, ↓EU_draw]
        rfl
      · rw [EC_EU (bad := []) (by kernel_rfl)]
        have k0' : (h'.set (h1.next + 1) (LB .busy none)).get h.next = .cells [v] 0 := by rw [get_set_ne _ (by omega)]; exact k0
        have k4' : (h'.set (h1.next + 1) (LB .busy none)).get (h1.next + 1) = LB .busy none := get_set_same _ _ _
        have m' : Mod (fun j => j = h.next ∨ j = h1.next + 1) hb (h'.set (h1.next + 1) (LB .busy none)) := m.set _ _ (fun _ => .inr rfl)
        have hn' : (h'.set (h1.next + 1) (LB .busy none)).next = h'.next := next_set _ _ _
        have ov' : OW (intE .i64) 1 (h'.set (h1.next + 1) (LB .busy none)) v (coresI M i) := ov.mod (Mod.set (S := fun j => j = h1.next + 1) (Mod.refl _ _) _ _ (fun _ => rfl)) (fun j hj q => by have := fv j hj; omega)
        generalize h'.set (h1.next + 1) (LB .busy none) = h2 at *
        obtain ⟨va, vc, hve⟩ := ov'.val
        simp (maxSteps := 1000000) (disch := first | decide | omega | (simp only [go_sem]; first | done | omega)) only [go_sem, Int.reduceToNat, Nat.reduceMul, Nat.reduceAdd, Nat.reduceSub, ↓EU_region, ↓EU_draw, k0']
        repeat refine WPo_ob ?_
        refine append_gr (e := intE .i64) (l := coresI M i) (l' := [x]) fc_ap_27_27 i64_len (by decide) i64_scal (ov'.ext ((Ext.refl h2).push _)) (OW.lit i64_len h2 [x]).sl (by simp only [List.length_cons, List.length_nil]; omega) (by simp only [List.length_cons, List.length_nil]; omega) fun v3 h3 o3 gr => ?_
        rw [← hnx] at o3
        have hn3 := gr.le
        rw [next_push] at hn3
        have nb1 : ¬ blkOf v h.next := fun q => by have := fv _ q; omega
        have nb2 : ¬ blkOf v (h1.next + 1) := fun q => by have := fv _ q; omega
        have k03 : h3.get h.next = .cells [v] 0 := by rw [gr.old _ (by rw [next_push]; omega) nb1, get_push_old _ (by omega)]; exact k0'
        have k43 : h3.get (h1.next + 1) = LB .busy none := by rw [gr.old _ (by rw [next_push]; omega) nb2, get_push_old _ (by omega)]; exact k4'
        have f3 : Fresh hb.next v3 := fun j hj => by
          rcases gr.src j hj with q | q
          · exact fv j q
          · rw [next_push] at q; omega
        have m3 : Mod (fun j => j = h.next ∨ j = h1.next + 1) hb h3 := (m'.push (.cells [.int .i64 x] 1)).drop (Mod.mono (S := blkOf v) ⟨gr.le, fun j hj hq => gr.old j hj hq⟩ fun j _ q => .inr (fv j q))
        obtain ⟨wa, wc, rfl⟩ := o3.val
        simp (maxSteps := 1000000) (disch := first | decide | omega | (simp only [go_sem]; first | done | omega)) only [go_sem, Int.reduceToNat, Nat.reduceMul, Nat.reduceAdd, Nat.reduceSub, ↓EU_region, ↓EU_draw, k03]
        refine ⟨k43, .inl ⟨trivial, .inl ⟨trivial, (m3.set _ _ (fun _ => .inl rfl)).set _ _ (fun _ => .inr rfl), trivial, _, rfl, ?_, f3⟩⟩⟩
        refine (o3.mod (Mod.set (S := fun j => j = h.next) (Mod.refl _ _) _ _ (fun _ => rfl)) (fun j hj q => by have := f3 j hj; omega)).mod (Mod.set (S := fun j => j = h1.next + 1) (Mod.refl _ _) _ _ (fun _ => rfl)) (fun j hj q => by have := f3 j hj; omega)
    · rintro ⟨v, h'⟩ (⟨m, k4, v', k0, ov, fv⟩ | k)
      · have hm := m.le
        simp only at k4 k0 ov
        refine ⟨none, k4, rfl, ⟨v', by rw [get_set_ne _ (by omega)]; exact k0, ov.mod (Mod.set (S := fun j => j = h1.next + 1) (Mod.refl _ _) _ _ (fun _ => rfl)) (fun j hj q => by have := fv j hj; omega), by rw [← gn]; exact fv⟩, ?_, by rw [next_set]; omega, ?_⟩
        · rw [get_set_ne _ (by omega), m.old' (by omega) (by omega)]; exact g3
        · exact Mod.ext ((e1.mod (fun _ => False)).drop ((m.set _ _ (fun _ => .inr rfl)).mono fun i _ q => .inr (by omega)))
      · exact k.elim
  · rintro h' ⟨_, ⟨v, k0, ov, fv⟩, k3, hn, xx⟩
    obtain ⟨va, vc, rfl⟩ := ov.val
    simp (maxSteps := 1000000) (disch := first | decide | omega | (simp only [go_sem]; first | done | omega)) only [go_sem, Int.reduceToNat, Nat.reduceMul, Nat.reduceAdd, Nat.reduceSub, ↓EU_region, ↓EU_draw, k0]
    rw [leaveK_dr _ _ _ _ _ k3]
    simp (maxSteps := 1000000) (disch := first | decide | omega | (simp only [go_sem]; first | done | omega)) only [go_sem, Int.reduceToNat, Nat.reduceMul, Nat.reduceAdd, Nat.reduceSub, ↓EU_region, ↓EU_draw]
    exact ⟨ov.mod (Mod.set (S := fun j => j = h1.next) (Mod.refl _ _) _ _ (fun _ => rfl)) (fun j hj q => by have := fv j hj; omega), fv.mono (by omega), xx.set h1.next _ (by omega)⟩
  · rintro c h' ⟨q, _⟩
    cases q
theorem list_ev (M : Nat) (hM : M < 65536) (h : Heap) :
    WPo (EF Tryd.prog O0 13 [.int .u16 (M : Int)] h) fun q => OW (intE .i64) 1 q.2 q.1 (coresI M 16) ∧ Fresh h.next q.1 ∧ Ext h q.2 := by
  rw [EF_body (O := O0) (by kernel_rfl) Tryd.func13 rfl (rs := [.tmp 2]) rfl (bad := []) (by kernel_rfl) _ _ (m := 6) rfl]
  have x1 : Ext h (h.push (.cells [.int .u16 (M : Int)] 0)) := by repeat (first | exact Ext.refl _ | assumption | refine Ext.push ?_ _ | refine Ext.set ?_ _ _ (by first | omega | (simp only [next_push, next_set]; omega)))
  have c1 : (h.push (.cells [.int .u16 (M : Int)] 0)).get h.next = .cells [.int .u16 (M : Int)] 0 := get_push_new _ _
  have hn1 : (h.push (.cells [.int .u16 (M : Int)] 0)).next = h.next + 1 := next_push _ _
  simp (maxSteps := 1000000) (disch := first | decide | omega | (simp only [go_sem]; first | done | omega)) only [go_sem, Int.reduceToNat, Nat.reduceMul, Nat.reduceAdd, Nat.reduceSub, ↓EU_region, ↓EU_draw, all_ev]
  generalize h.push (.cells [.int .u16 (M : Int)] 0) = h1 at *
  repeat refine WPo_ob ?_
  have hcol : WPo (EF Tryd.prog O0 25 [.func (.func 27) ⟨[]⟩ ⟨[ptr h.next 0]⟩] h1) fun q => OW (intE .i64) 1 q.2 q.1 (coresI M 16) ∧ Fresh h1.next q.1 ∧ Ext h1 q.2 := by
    rw [EF_body (O := O0) (by kernel_rfl) Tryd.func25 rfl (rs := [.tmp 2]) rfl (bad := []) (by kernel_rfl) _ _ (m := 5) rfl]
    simp (maxSteps := 1000000) (disch := first | decide | omega | (simp only [go_sem]; first | done | omega)) only [go_sem, Int.reduceToNat, Nat.reduceMul, Nat.reduceAdd, Nat.reduceSub, ↓EU_region, ↓EU_draw]
    repeat refine WPo_ob ?_
    refine (appSeq_ev M hM h.next h1 c1 (by omega)).mono ?_
    rintro ⟨v, h2⟩ r
    simp (maxSteps := 1000000) (disch := first | decide | omega | (simp only [go_sem]; first | done | omega)) only [go_sem, Int.reduceToNat, Nat.reduceMul, Nat.reduceAdd, Nat.reduceSub, ↓EU_region, ↓EU_draw]
    exact r
  refine hcol.mono ?_
  rintro ⟨v, h2⟩ ⟨o2, f2, x2⟩
  simp only at o2 f2 x2
  simp (maxSteps := 1000000) (disch := first | decide | omega | (simp only [go_sem]; first | done | omega)) only [go_sem, Int.reduceToNat, Nat.reduceMul, Nat.reduceAdd, Nat.reduceSub, ↓EU_region, ↓EU_draw]
  exact ⟨o2, f2.mono (by omega), x1.trans x2⟩
end Go.Proofs.YtpgekabdemmlfaaDoor.EV
