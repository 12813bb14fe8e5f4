/- Contract: masks: Text. No condition. -/
import Derived.Test.YtpgekabdemmlfaaDoorMask1
import Derived.Test.YtpgekabdemmlfaaDoorItoa
namespace Go.Proofs.YtpgekabdemmlfaaDoor.EV
open Go Go.Proofs
set_option linter.unusedVariables false
set_option linter.unusedSimpArgs false
set_option maxRecDepth 100000
set_option pp.deepTerms false
set_option pp.deepTerms.threshold 20
noncomputable def strE (s : List UInt8) : List Value := [strV s]
theorem SL.veq' {α : Type} {e : α → List Value} {es : Nat} {h : Heap} {v : Value} {l : List α} (s : SL e es h v l) : veq v v = true := by
  cases s with
  | nil => exact veq_slN _ _
  | mk b o c l cs hb hc hl hx hcap hq => exact veq_slS _ _ _ _
theorem strE_len (x : List UInt8) : (strE x).length = 1 := rfl
theorem strE_scal (x : List UInt8) : (strE x).all scal = true := rfl
noncomputable def coresT (M i : Nat) : List (List UInt8) := (cores M i).map fun (n : Nat) => itoaB (n : Int)
theorem coresT_t {M i : Nat} (h : hasN M i = true) : coresT M (i + 1) = coresT M i ++ [itoaB (i : Int)] := by
  unfold coresT
  rw [cores_t h, List.map_append]; rfl
theorem coresT_f {M i : Nat} (h : hasN M i = false) : coresT M (i + 1) = coresT M i := by
  unfold coresT
  rw [cores_f h]
theorem coresT_len (M i : Nat) : (coresT M i).length ≤ i := by
  unfold coresT
  rw [List.length_map]
  exact cores_len M i
noncomputable def textM (M : Nat) : List UInt8 := if coresT M 16 = [] then [45] else Lib.join (coresT M 16) [44]
theorem strs_flat : ∀ l : List (List UInt8), strs (l.flatMap strE) = some (l.map fun s => ⟨⟨s⟩⟩)
  | [] => rfl
  | x :: l => by
    show (match strs (l.flatMap strE) with | some r => some ((⟨⟨x⟩⟩ : ByteArray) :: r) | none => none) = _
    rw [strs_flat l]; rfl
theorem join_ev (l : List (List UInt8)) (s : Value) (sep : List UInt8) (h : Heap) (hs : SL strE 1 h s l) (hne : l ≠ []) (hl : l.length ≤ 100000) (hj : (Lib.join l sep).length ≤ 10000000) :
    EF Tryd.prog O0 22 [s, strV sep] h = some (strV (Lib.join l sep), h) := by
  rw [EF_eq]
  unfold stepO
  have : O0 22 = some joinT := by kernel_rfl
  rw [this]
  cases hs with
  | nil => exact (hne rfl).elim
  | mk b o c l cs hb hc hll hx hcap hq =>
    have h1 := rows_eq (e := strE) (es := 1) strE_len l o hll hx
    have h2 : h.rd b o l.length = some (l.flatMap strE) := by
      rw [rd_eq, rdc_of hc _ _ (by omega)]
      rw [Nat.mul_one] at h1
      rw [h1]
    have hjb : joinB (l.map fun s => (⟨⟨s⟩⟩ : ByteArray)) ⟨⟨sep⟩⟩ = Lib.join l sep := by
      unfold joinB
      rw [List.map_map]
      congr 1
      exact (List.map_congr_left fun x _ => rfl).trans (List.map_id l)
    show joinT [.slice (some ⟨b, o, none⟩) l.length c, .string ⟨⟨sep⟩⟩] h = _
    unfold joinT
    simp only [h2, ob_some, strs_flat, hjb]
    have hl0 : 0 < l.length := by
      rcases Nat.eq_zero_or_pos l.length with q | q
      · exact (hne (List.length_eq_zero_iff.1 q)).elim
      · exact q
    have e1 : Nat.blt 0 l.length = true := by rw [Nat.blt_eq]; exact hl0
    rw [e1, ble_nat hl, ble_nat hj]
    rfl
theorem joinTail_len (sep : List UInt8) (hs : sep.length ≤ 1) : ∀ l : List (List UInt8), (∀ x ∈ l, x.length ≤ 21) → (Lib.joinTail sep l).length ≤ 22 * l.length
  | [], _ => Nat.zero_le _
  | x :: l, h => by
    have h1 := h x (List.mem_cons_self ..)
    have h2 := joinTail_len sep hs l fun y hy => h y (List.mem_cons_of_mem _ hy)
    unfold Lib.joinTail at *
    simp only [List.map_cons, List.flatten_cons, List.length_append, List.length_cons]
    omega
theorem join_len {l : List (List UInt8)} (h : ∀ x ∈ l, x.length ≤ 21) : (Lib.join l [44]).length ≤ 22 * l.length := by
  cases l with
  | nil => exact Nat.zero_le _
  | cons x l =>
    rw [Lib.join_cons, List.length_append]
    have h1 := h x (List.mem_cons_self ..)
    have h2 := joinTail_len [44] (by simp) l fun y hy => h y (List.mem_cons_of_mem _ hy)
    simp only [List.length_cons]
    omega
theorem coresT_small (M i : Nat) (hi : i ≤ 16) : ∀ x ∈ coresT M i, x.length ≤ 21 := by
  intro x hx
  unfold coresT at hx
  obtain ⟨n, hn, rfl⟩ := List.mem_map.1 hx
  have := (List.mem_filter.1 hn).1
  rw [List.mem_range] at this
  exact (itoaB_len ⟨by omega, by omega⟩).2
set_option maxHeartbeats 4000000 in
theorem mtext_ev (M : Nat) (hM : M < 65536) (h : Heap) :
    Pu (EF Tryd.prog O0 8 [.int .u16 (M : Int)] h) h (strV (textM M)) := by
  unfold Pu
  rw [EF_body (O := O0) (by kernel_rfl) Tryd.func8 rfl (rs := [.tmp 2]) rfl (bad := []) (by kernel_rfl) _ _ (m := 18) rfl]
  simp (maxSteps := 1000000) (disch := first | decide | omega | (simp only [go_sem]; first | done | omega)) only [go_sem, Int.reduceToNat, Nat.reduceMul, Nat.reduceAdd, Nat.reduceSub, ↓EU_region, ↓EU_draw, all_ev]
  have x1 : Ext h ((h.push (.cells [.slice none 0 1] 0)).push (.cells [.int .u16 (M : Int)] 0)) := by repeat (first | exact Ext.refl _ | assumption | refine Ext.push ?_ _ | refine Ext.set ?_ _ _ (by first | omega | (simp only [next_push, next_set]; omega)))
  have c0 : ((h.push (.cells [.slice none 0 1] 0)).push (.cells [.int .u16 (M : Int)] 0)).get h.next = .cells [.slice none 0 1] 0 := by simp (maxSteps := 1000000) (disch := first | decide | omega | (simp only [go_sem]; first | done | omega)) only [go_sem, Int.reduceToNat, Nat.reduceMul, Nat.reduceAdd, Nat.reduceSub, ↓EU_region, ↓EU_draw]
  have cA : ((h.push (.cells [.slice none 0 1] 0)).push (.cells [.int .u16 (M : Int)] 0)).get (h.next + 1) = .cells [.int .u16 (M : Int)] 0 := by simp (maxSteps := 1000000) (disch := first | decide | omega | (simp only [go_sem]; first | done | omega)) only [go_sem, Int.reduceToNat, Nat.reduceMul, Nat.reduceAdd, Nat.reduceSub, ↓EU_region, ↓EU_draw]
  have hn1 : ((h.push (.cells [.slice none 0 1] 0)).push (.cells [.int .u16 (M : Int)] 0)).next = h.next + 1 + 1 := by simp (maxSteps := 1000000) (disch := first | decide | omega | (simp only [go_sem]; first | done | omega)) only [go_sem, Int.reduceToNat, Nat.reduceMul, Nat.reduceAdd, Nat.reduceSub, ↓EU_region, ↓EU_draw]
  generalize ((h.push (.cells [.slice none 0 1] 0)).push (.cells [.int .u16 (M : Int)] 0)) = h1 at *
  repeat refine WPo_ob ?_
  refine range_rule' stR (fun p h' => p = none ∧ (∃ v, h'.get h.next = .cells [v] 0 ∧ OW strE 1 h' v (coresT M 16) ∧ Fresh (h1.next + 2) v) ∧ h'.get h1.next = .defd ∧ h1.next < h'.next ∧ Ext h h') stR_b ?_ ?_ ?_
  · intro LB hLB
    have g0 : ((h1.push .defd).push (LB .ready none)).get h.next = .cells [.slice none 0 1] 0 := by rw [get_push_old _ (by rw [next_push]; omega), get_push_old _ (by omega)]; exact c0
    have g1 : ((h1.push .defd).push (LB .ready none)).get (h.next + 1) = .cells [.int .u16 (M : Int)] 0 := by rw [get_push_old _ (by rw [next_push]; omega), get_push_old _ (by omega)]; exact cA
    have g3 : ((h1.push .defd).push (LB .ready none)).get h1.next = .defd := by rw [get_push_old _ (by rw [next_push]; omega)]; exact get_push_new _ _
    have g4 : ((h1.push .defd).push (LB .ready none)).get (h1.next + 1) = LB .ready none := by rw [← next_push h1 .defd]; exact get_push_new _ _
    have gx : Ext h1 ((h1.push .defd).push (LB .ready none)) := ((Ext.refl h1).push _).push _
    have gn : ((h1.push .defd).push (LB .ready none)).next = h1.next + 2 := by rw [next_push, next_push]
    generalize (h1.push .defd).push (LB .ready none) = hb at *
    have e1 : Ext h hb := x1.trans gx
    refine (all1_ev M hM (h.next + 1) (yieldV (h1.next + 1)) (fun i h' => Mod (fun j => j = h.next ∨ j = h1.next + 1) hb h' ∧ h'.get (h1.next + 1) = LB .ready none ∧ ∃ v, h'.get h.next = .cells [v] 0 ∧ OW strE 1 h' v (coresT M i) ∧ Fresh hb.next v) (fun _ => False) hb ?_ ⟨Mod.refl _ _, g4, _, g0, OW.nil, Fresh.nil _ _ _⟩ ?_ ?_).mono ?_
    · rintro i h' ⟨m, k4, k5⟩
      rw [m.old' (by omega) (by omega)]
      exact g1
    · rintro i h' hi hb ⟨m, k4, v, k0, ov, fv⟩
      rw [← coresT_f hb] at ov
      exact ⟨m, k4, v, k0, ov, fv⟩
    · rintro i h' hi hhas ⟨m, k4, v, k0, ov, fv⟩
      have hm := m.le
      have hlt := coresT_len M i
      have hnx := coresT_t hhas
      have hit := fun (h : Heap) => itoa_ev (i : Int) h (by omega) (by omega)
      generalize itoaB (i : Int) = x at *
      refine round_rule' hLB k4 rfl (tm1 := ?_) ?_ ?_
      rotate_left
      · rw [setP1, EC_EU (bad := []) (by kernel_rfl)]
        simp (maxSteps := 1000000) (disch := first | decide | omega | (simp only [go_sem]; first | done | omega)) only [go_sem, Int.reduceToNat, Nat.reduceMul, Nat.reduceAdd, Nat.reduceSub, ↓EU_region, ↓EU_draw]
        rfl
      · rw [EC_EU (bad := [4]) (by kernel_rfl)]
        have k0' : (h'.set (h1.next + 1) (LB .busy none)).get h.next = .cells [v] 0 := by rw [get_set_ne _ (by omega)]; exact k0
        have k4' : (h'.set (h1.next + 1) (LB .busy none)).get (h1.next + 1) = LB .busy none := get_set_same _ _ _
        have m' : Mod (fun j => j = h.next ∨ j = h1.next + 1) hb (h'.set (h1.next + 1) (LB .busy none)) := m.set _ _ (fun _ => .inr rfl)
        have hn' : (h'.set (h1.next + 1) (LB .busy none)).next = h'.next := next_set _ _ _
        have ov' : OW strE 1 (h'.set (h1.next + 1) (LB .busy none)) v (coresT M i) := ov.mod (Mod.set (S := fun j => j = h1.next + 1) (Mod.refl _ _) _ _ (fun _ => rfl)) (fun j hj q => by have := fv j hj; omega)
        generalize h'.set (h1.next + 1) (LB .busy none) = h2 at *
        have hnn : h.next < h2.next := by omega
        have k0p : (h2.push (.cells [strV x] 1)).get h.next = .cells [v] 0 := by rw [get_push_old _ hnn]; exact k0'
        have vv := ov'.sl.veq'
        simp (maxSteps := 1000000) (disch := first | decide | omega | (simp only [go_sem]; first | done | omega)) only [go_sem, Int.reduceToNat, Nat.reduceMul, Nat.reduceAdd, Nat.reduceSub]
        rw [EU_bad _ _ rfl, EC_tab (tab := [(false, (some (0, 2))), (false, none), (true, none), (true, none), (true, none), (true, none)]) (by kernel_rfl)]
        obtain ⟨va, vc, hve⟩ := ov'.val
        subst hve
        have hcs : cellsL (strV x) = [strV x] := rfl
        simp (maxSteps := 1000000) (disch := first | decide | omega | (simp only [go_sem]; first | done | omega)) only [go_sem, Int.reduceToNat, Nat.reduceMul, Nat.reduceAdd, Nat.reduceSub, ↓EU_region, ↓EU_draw, k0', k0p, hit, vv, hcs]
        repeat refine WPo_ob ?_
        refine append_gr (e := strE) (l := coresT M i) (l' := [x]) fc_ap_41_41 strE_len (by decide) strE_scal (ov'.ext ((Ext.refl h2).push _)) (OW.lit strE_len h2 [x]).sl (by simp only [List.length_cons, List.length_nil]; omega) (by simp only [List.length_cons, List.length_nil]; omega) fun v3 h3 o3 gr => ?_
        rw [← hnx] at o3
        have hn3 := gr.le
        rw [next_push] at hn3
        have nb1 : ¬ blkOf (.slice va (coresT M i).length vc) h.next := fun q => by have := fv _ q; omega
        have nb2 : ¬ blkOf (.slice va (coresT M i).length vc) (h1.next + 1) := fun q => by have := fv _ q; omega
        have k03 : h3.get h.next = .cells [(.slice va (coresT M i).length vc)] 0 := by rw [gr.old _ (by rw [next_push]; omega) nb1, get_push_old _ (by omega)]; exact k0'
        have k43 : h3.get (h1.next + 1) = LB .busy none := by rw [gr.old _ (by rw [next_push]; omega) nb2, get_push_old _ (by omega)]; exact k4'
        have f3 : Fresh hb.next v3 := fun j hj => by
          rcases gr.src j hj with q | q
          · exact fv j q
          · rw [next_push] at q; omega
        have m3 : Mod (fun j => j = h.next ∨ j = h1.next + 1) hb h3 := (m'.push (.cells [strV x] 1)).drop (Mod.mono (S := blkOf (.slice va (coresT M i).length vc)) ⟨gr.le, fun j hj hq => gr.old j hj hq⟩ fun j _ q => .inr (fv j q))
        obtain ⟨wa, wc, rfl⟩ := o3.val
        simp (maxSteps := 1000000) (disch := first | decide | omega | (simp only [go_sem]; first | done | omega)) only [go_sem, Int.reduceToNat, Nat.reduceMul, Nat.reduceAdd, Nat.reduceSub, ↓EU_region, ↓EU_draw, k03, k0', k0p, vv]
        refine ⟨k43, .inl ⟨trivial, .inl ⟨trivial, (m3.set _ _ (fun _ => .inl rfl)).set _ _ (fun _ => .inr rfl), trivial, _, rfl, ?_, f3⟩⟩⟩
        refine (o3.mod (Mod.set (S := fun j => j = h.next) (Mod.refl _ _) _ _ (fun _ => rfl)) (fun j hj q => by have := f3 j hj; omega)).mod (Mod.set (S := fun j => j = h1.next + 1) (Mod.refl _ _) _ _ (fun _ => rfl)) (fun j hj q => by have := f3 j hj; omega)
    · rintro ⟨v, h'⟩ (⟨m, k4, v', k0, ov, fv⟩ | k)
      · have hm := m.le
        simp only at k4 k0 ov
        refine ⟨none, k4, rfl, ⟨v', by rw [get_set_ne _ (by omega)]; exact k0, ov.mod (Mod.set (S := fun j => j = h1.next + 1) (Mod.refl _ _) _ _ (fun _ => rfl)) (fun j hj q => by have := fv j hj; omega), by rw [← gn]; exact fv⟩, ?_, by rw [next_set]; omega, ?_⟩
        · rw [get_set_ne _ (by omega), m.old' (by omega) (by omega)]; exact g3
        · exact Mod.ext ((e1.mod (fun _ => False)).drop ((m.set _ _ (fun _ => .inr rfl)).mono fun i _ q => .inr (by omega)))
      · exact k.elim
  · rintro h' ⟨_, ⟨v, k0, ov, fv⟩, k3, hn, xx⟩
    have hsl := ov.sl
    have hlen := coresT_len M 16
    have hjl := join_len (coresT_small M 16 (Nat.le_refl _))
    unfold textM
    by_cases hne : coresT M 16 = []
    · rw [if_pos hne]
      rw [hne] at ov
      obtain ⟨va, vc, rfl⟩ := ov.val
      simp (maxSteps := 1000000) (disch := first | decide | omega | (simp only [go_sem]; first | done | omega)) only [go_sem, Int.reduceToNat, Nat.reduceMul, Nat.reduceAdd, Nat.reduceSub, ↓EU_region, ↓EU_draw, dec_t, dec_f, k0]
      rw [leaveK_dr _ _ _ _ _ k3]
      simp (maxSteps := 1000000) (disch := first | decide | omega | (simp only [go_sem]; first | done | omega)) only [go_sem, Int.reduceToNat, Nat.reduceMul, Nat.reduceAdd, Nat.reduceSub, ↓EU_region, ↓EU_draw]
      exact ⟨rfl, xx.set h1.next _ (by omega)⟩
    · rw [if_neg hne]
      have hjj := join_ev (coresT M 16) v [44] h' hsl hne (by omega) (by omega)
      have hl0 : (coresT M 16).length ≠ 0 := fun e => hne (List.length_eq_zero_iff.1 e)
      have d0 : decide (((coresT M 16).length : Int) = 0) = false := decide_eq_false (by omega)
      obtain ⟨va, vc, rfl⟩ := ov.val
      have hjj' : EF Tryd.prog O0 22 [.slice va (coresT M 16).length vc, .string ⟨#[44]⟩] h' = some (strV (Lib.join (coresT M 16) [44]), h') := hjj
      simp (maxSteps := 1000000) (disch := first | decide | omega | (simp only [go_sem]; first | done | omega)) only [go_sem, Int.reduceToNat, Nat.reduceMul, Nat.reduceAdd, Nat.reduceSub, ↓EU_region, ↓EU_draw, k0, d0, hjj']
      rw [leaveK_dr _ _ _ _ _ k3]
      simp (maxSteps := 1000000) (disch := first | decide | omega | (simp only [go_sem]; first | done | omega)) only [go_sem, Int.reduceToNat, Nat.reduceMul, Nat.reduceAdd, Nat.reduceSub, ↓EU_region, ↓EU_draw]
      exact ⟨trivial, xx.set h1.next _ (by omega)⟩
  · rintro c h' ⟨q, _⟩
    cases q
end Go.Proofs.YtpgekabdemmlfaaDoor.EV
