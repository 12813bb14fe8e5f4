/- Contracts: queues: List. No condition. -/
import Derived.Test.YtbbdhpjkibbnkaaOq7
namespace Go.Proofs.Ytbbdhpjkibbnkaa.EV
open Go Go.Proofs
set_option linter.unusedVariables false
set_option linter.unusedSimpArgs false
set_option maxRecDepth 100000
set_option pp.deepTerms false
set_option pp.deepTerms.threshold 20
noncomputable def toP (x : QI) : I2 := (x.key, x.id)
noncomputable def ofP (t : I2) : QI := ⟨t.1, t.2⟩
noncomputable def srtQ (l : List QI) : List QI := (srt2 (l.map toP)).map ofP
theorem flat_to : ∀ l : List QI, (l.map toP).flatMap enc2 = l.flatMap qE
  | [] => rfl
  | x :: l => by rw [List.map_cons, List.flatMap_cons, List.flatMap_cons, flat_to l]; rfl
theorem flat_of : ∀ l : List I2, l.flatMap enc2 = (l.map ofP).flatMap qE
  | [] => rfl
  | x :: l => by rw [List.map_cons, List.flatMap_cons, List.flatMap_cons, flat_of l]; rfl
theorem srtQ_len (l : List QI) : (srtQ l).length = l.length := by
  unfold srtQ
  rw [List.length_map, srt2_len, List.length_map]
theorem srtQ_perm (l : List QI) : (srtQ l).Perm l := by
  have h1 := (srt2_perm (l.map toP)).map ofP
  rw [List.map_map] at h1
  have h2 : l.map (ofP ∘ toP) = l := (List.map_congr_left fun x _ => rfl).trans (List.map_id l)
  rw [h2] at h1
  exact h1
theorem srtQ_sorted (l : List QI) : (srtQ l).Pairwise fun a b => ¬ ltQ b a := by
  unfold srtQ
  rw [List.pairwise_map]
  exact srt2_sorted _
theorem sortq_ev (l : List QI) (s : Value) (h : Heap) (ho : OW qE 2 h s l) (hl : l.length ≤ 1000000) :
    WPo (EF Try.prog O0 45 [s, .func (.func 43) ⟨[]⟩ ⟨[]⟩] h) fun q => OW qE 2 q.2 s (srtQ l) ∧ Mod (blkOf s) h q.2 ∧ q.2.next = h.next := by
  rw [EF_eq]
  unfold stepO
  have : O0 45 = some sort2T := by kernel_rfl
  rw [this]
  by_cases hne : l = []
  · subst hne
    have e0 : srtQ [] = [] := List.length_eq_zero_iff.1 (srtQ_len [])
    rw [e0]
    obtain ⟨a, c, rfl⟩ := ho.val
    exact ⟨(.tuple ⟨[]⟩, h), rfl, ho, Mod.refl _ _, rfl⟩
  cases ho with
  | nil => exact (hne rfl).elim
  | mk b o c l cs hb hc hcap hll hx =>
    have hl0 : 0 < l.length := by
      rcases Nat.eq_zero_or_pos l.length with q | q
      · exact (hne (List.length_eq_zero_iff.1 q)).elim
      · exact q
    have hle := Nat.mul_le_mul_right 2 hcap
    have h1 := rows_eq (e := qE) (es := 2) qE_len l o (by omega) hx
    have h2 : h.rd b o (l.length * 2) = some ((l.map toP).flatMap enc2) := by
      rw [rd_eq, hc, rdc_c _ _ _ _ (by omega), h1, flat_to]
    have hys : (srt2 (l.map toP)).flatMap enc2 = (srtQ l).flatMap qE := flat_of _
    have hyl : ((srtQ l).flatMap qE).length = l.length * 2 := by rw [flatMap_len qE_len, srtQ_len]
    have hall : ((srtQ l).flatMap qE).all scal = true := by
      rw [List.all_eq_true]
      intro u hu
      obtain ⟨x, _, hx⟩ := List.mem_flatMap.1 hu
      exact List.all_eq_true.1 (qE_scal x) u hx
    have hfit : o + ((srtQ l).flatMap qE).length ≤ cs.length := by omega
    have hn0 : Nat.beq l.length 0 = false := by
      cases hq : Nat.beq l.length 0 with
      | false => rfl
      | true => have := Nat.eq_of_beq_eq_true hq; omega
    show WPo (cnd (Nat.beq l.length 0) _ (sortT enc2 2 dec2 srt2 43 [.slice (some ⟨b, o, none⟩) l.length c, .func (.func 43) ⟨[]⟩ ⟨[]⟩] h)) _
    rw [hn0, cnd_false]
    unfold sortT
    have e1 : Nat.blt 0 l.length = true := by rw [Nat.blt_eq]; exact hl0
    have e2 : (Nat.beq 43 43 && ((⟨[]⟩ : Array Value).toList.isEmpty && ((⟨[]⟩ : Array Value).toList.isEmpty && (Nat.blt 0 l.length && Nat.ble l.length 1000000)))) = true := by
      rw [e1, ble_nat hl]; rfl
    have e3 : Nat.beq (l.map toP).length l.length = true := by rw [List.length_map]; exact beq_nat rfl
    simp only [e2, cnd_true, h2, ob_some, dec2_enc, e3, hys, wr_eq, hc, wrc_c _ _ _ _ _ _ hfit hall]
    refine ⟨_, rfl, ?_, (Mod.refl _ _).set _ _ fun _ => rfl, next_set _ _ _⟩
    have := OW.mk (e := qE) (es := 2) (h := h.set b (.cells (splice cs o ((srtQ l).flatMap qE)) 2)) b o c (srtQ l) _ (by rw [next_set]; exact hb) (get_set_same _ _ _) (by rw [srtQ_len]; exact hcap) (by rw [splice_len]; exact hll) fun i x hi => by
      have hin := (List.getElem?_eq_some_iff.1 hi).1
      rw [srtQ_len] at hin
      rw [← flatMap_at qE_len (srtQ l) i x hi]
      apply List.ext_getElem?
      intro j
      by_cases hj : j < 2
      · rw [List.getElem?_take_of_lt hj, List.getElem?_take_of_lt hj, List.getElem?_drop, List.getElem?_drop, splice_get hfit, if_pos (by omega)]
        congr 1; omega
      · rw [List.getElem?_eq_none (by rw [List.length_take]; omega), List.getElem?_eq_none (by rw [List.length_take]; omega)]
    rw [srtQ_len] at this
    exact this
theorem sorted_ev (g : FuncId) (y : List Value) (L : List QI) (h : Heap) {bx : List (Nat × Value)} (it : Iter Try.prog O0 argQ g y L bx h) (hbx : BX bx h) (hL : L.length < 800000) :
    WPo (EF Try.prog O0 41 [.func (.func g) ⟨[]⟩ ⟨y⟩, .func (.func 43) ⟨[]⟩ ⟨[]⟩] h) fun q => OW qE 2 q.2 q.1 (srtQ L) ∧ Fresh h.next q.1 ∧ Ext h q.2 := by
  rw [EF_body (O := O0) (by kernel_rfl) Try.func41 rfl (rs := [.tmp 4]) rfl (bad := []) (by kernel_rfl) _ _ (m := 12) rfl]
  simp (maxSteps := 1000000) (disch := first | decide | omega | (simp only [go_sem]; first | done | omega)) only [go_sem, Int.reduceToNat, Nat.reduceMul, Nat.reduceAdd, Nat.reduceSub, ↓EU_region, ↓EU_draw]
  repeat refine WPo_ob ?_
  refine (collect_ev g y L h it hbx hL).mono ?_
  rintro ⟨v, h1⟩ ⟨o1, f1, x1⟩
  simp only at o1 f1 x1
  simp (maxSteps := 1000000) (disch := first | decide | omega | (simp only [go_sem]; first | done | omega)) only [go_sem, Int.reduceToNat, Nat.reduceMul, Nat.reduceAdd, Nat.reduceSub, ↓EU_region, ↓EU_draw]
  repeat refine WPo_ob ?_
  refine (sortq_ev L v h1 o1 (by omega)).mono ?_
  rintro ⟨w, h2⟩ ⟨o2, m2, n2⟩
  simp only at o2 m2 n2
  simp (maxSteps := 1000000) (disch := first | decide | omega | (simp only [go_sem]; first | done | omega)) only [go_sem, Int.reduceToNat, Nat.reduceMul, Nat.reduceAdd, Nat.reduceSub, ↓EU_region, ↓EU_draw]
  have hl1 := x1.le
  exact ⟨o2, f1, ⟨by omega, fun j hj => by rw [m2.old _ (by omega) (fun q => by have := f1 j q; omega)]; exact x1.old j hj⟩⟩
theorem qlist_ev {h : Heap} {b : Nat} {lv : Value} {mb : Nat} {most st : Int} {l : List QI} (q : QR h b lv mb most st l) (hl : l.length < 800000) :
    WPo (EF Try.prog O0 38 [ptr b 0] h) fun r => OW qE 2 r.2 r.1 (srtQ l) ∧ Fresh h.next r.1 ∧ Ext h r.2 := by
  rw [EF_body (O := O0) (by kernel_rfl) Try.func38 rfl (rs := [.tmp 2]) rfl (bad := []) (by kernel_rfl) _ _ (m := 9) rfl]
  have cb := q.cb
  have hv : EF Try.prog O0 42 [lv] h = some (.func (.func 46) ⟨[]⟩ ⟨[ptr h.next 0]⟩, h.push (.cells [lv] 0)) := by
    obtain ⟨a, c, rfl⟩ := q.ow.val
    have : WPo (EF Try.prog O0 42 [.slice a l.length c] h) fun r => r = (.func (.func 46) ⟨[]⟩ ⟨[ptr h.next 0]⟩, h.push (.cells [.slice a l.length c] 0)) := by
      rw [EF_body (O := O0) (by kernel_rfl) Try.func42 rfl (rs := [.tmp 2]) rfl (bad := []) (by kernel_rfl) _ _ (m := 4) rfl]
      simp (maxSteps := 1000000) (disch := first | decide | omega | (simp only [go_sem]; first | done | omega)) only [go_sem, Int.reduceToNat, Nat.reduceMul, Nat.reduceAdd, Nat.reduceSub, ↓EU_region, ↓EU_draw]
    obtain ⟨q, e, rfl⟩ := this
    exact e
  have x1 : Ext h (h.push (.cells [lv] 0)) := (Ext.refl h).push _
  have n1 : (h.push (.cells [lv] 0)).next = h.next + 1 := next_push _ _
  have it := values_it l lv h.next (h.push (.cells [lv] 0)) [(h.next, lv)] (List.mem_singleton.2 rfl) (q.ow.ext x1).sl (by omega)
  have hbx : BX [(h.next, lv)] (h.push (.cells [lv] 0)) := BX.one (get_push_new _ _) (by omega)
  obtain ⟨a, c, rfl⟩ := q.ow.val
  simp (maxSteps := 1000000) (disch := first | decide | omega | (simp only [go_sem]; first | done | omega)) only [go_sem, Int.reduceToNat, Nat.reduceMul, Nat.reduceAdd, Nat.reduceSub, ↓EU_region, ↓EU_draw, cb, hv]
  generalize h.push (.cells [.slice a l.length c] 0) = h1 at *
  repeat refine WPo_ob ?_
  refine (sorted_ev _ _ l h1 it hbx hl).mono ?_
  rintro ⟨v, h2⟩ ⟨o2, f2, x2⟩
  simp only at o2 f2 x2
  simp (maxSteps := 1000000) (disch := first | decide | omega | (simp only [go_sem]; first | done | omega)) only [go_sem, Int.reduceToNat, Nat.reduceMul, Nat.reduceAdd, Nat.reduceSub, ↓EU_region, ↓EU_draw]
  exact ⟨o2, f2.mono (by omega), x1.trans x2⟩
end Go.Proofs.Ytbbdhpjkibbnkaa.EV
