/- What is one's own, cut at its end, filled again in place, cleared. No condition. -/
import Derived.Test.YtbbdhpjkibbnkaaSy7
namespace Go.Proofs.Ytbbdhpjkibbnkaa.EV
open Go Go.Proofs
set_option linter.unusedVariables false
set_option linter.unusedSimpArgs false
section
variable {α : Type} {e : α → List Value} {es : Nat} {h : Heap} {P : Program} {t : TypeId} {l : List α} {b o c : Nat}
theorem OW.parts (s : OW e es h (.slice (some ⟨b, o, none⟩) l.length c) l) : ∃ cs, b < h.next ∧ h.get b = .cells cs es ∧ l.length ≤ c / 2 ∧ o + (c / 2) * es ≤ cs.length ∧ ∀ i x, l[i]? = some x → (cs.drop (o + i * es)).take es = e x := by
  generalize hv : Value.slice (some ⟨b, o, none⟩) l.length c = v at s
  cases s with
  | nil => cases hv
  | mk b' o' c' l cs hb hc hcap hl hx =>
    injection hv with h1 h2 h3
    injection h1 with h1
    injection h1 with h4 h5 h6
    subst h4; subst h5; subst h3
    exact ⟨cs, hb, hc, hcap, hl, hx⟩
theorem OW.take (s : OW e es h (.slice (some ⟨b, o, none⟩) l.length c) l) {i : Nat} (hi : i ≤ l.length) : OW e es h (.slice (some ⟨b, o, none⟩) i c) (l.take i) := by
  obtain ⟨cs, hb, hc, hcap, hl, hx⟩ := s.parts
  have e1 : (l.take i).length = i := by rw [List.length_take]; omega
  have := OW.mk (e := e) (es := es) (h := h) b o c (l.take i) cs hb hc (by omega) hl fun j x hj => hx j x (by
    rw [List.getElem?_take] at hj
    split at hj
    · exact hj
    · cases hj)
  rw [e1] at this
  exact this
theorem cells_es {cs : List Value} (hc : h.get b = .cells cs es) : cellsEs (h.get b) = some es := by rw [hc]; rfl
theorem cut_own (ht : slT P t = some es) (s : OW e es h (.slice (some ⟨b, o, none⟩) l.length c) l) (k : IntKind) {i : Nat} (hi : i ≤ l.length) : CUT P h t (.slice (some ⟨b, o, none⟩) l.length c) none (some (.int k (i : Int))) none = some (.slice (some ⟨b, o, none⟩) i c, h) := by
  obtain ⟨cs, hb, hc, hcap, hl, hx⟩ := s.parts
  have ends : cutEnds l.length (c / 2) none (some (.int k (i : Int))) none = some (0, i, c / 2, false) := by
    unfold cutEnds
    simp only [natOf_nat, ble_nat (Nat.le_trans hi hcap), cnd_true]
  rw [CUT_sl, ht, ob_s, ends, ob_s]
  unfold evCutSl
  rw [Bool.false_or, Nat.zero_mul, Nat.add_zero, Nat.sub_zero, Nat.sub_zero]
  by_cases od : c % 2 = 1
  · rw [beq_nat od, cnd_true]
    have e1 : cnd (Nat.beq (c / 2) 0) o o = o := by cases Nat.beq (c / 2) 0 <;> rfl
    have e2 : 2 * (c / 2) + 1 = c := by omega
    rw [e1, e2]
  · have e1 : Nat.beq (c % 2) 1 = false := by
      cases hq : Nat.beq (c % 2) 1 with
      | false => rfl
      | true => exact absurd (Nat.eq_of_beq_eq_true hq) od
    have e2 : 2 * (c / 2) = c := by omega
    rw [e1, cnd_false, cells_es hc, ob_s, beq_nat rfl, gd_true, e2]
/-- from here on, up to there, beyond its end -/
theorem cut_end (ht : slT P t = some es) (s : OW e es h (.slice (some ⟨b, o, none⟩) l.length c) l) (k k' : IntKind) {m : Nat} (hi : l.length < m) (hm : m ≤ c / 2) : ∃ c', CUT P h t (.slice (some ⟨b, o, none⟩) l.length c) (some (.int k (l.length : Int))) (some (.int k' (m : Int))) none = some (.slice (some ⟨b, o + l.length * es, none⟩) (m - l.length) c', h) := by
  obtain ⟨cs, hb, hc, hcap, hl, hx⟩ := s.parts
  have ends : cutEnds l.length (c / 2) (some (.int k (l.length : Int))) (some (.int k' (m : Int))) none = some (l.length, m, c / 2, false) := by
    unfold cutEnds
    simp only [natOf_nat, ble_nat hm, cnd_true, ble_nat (Nat.le_of_lt hi)]
  rw [CUT_sl, ht, ob_s, ends, ob_s]
  unfold evCutSl
  rw [Bool.false_or]
  by_cases od : c % 2 = 1
  · rw [beq_nat od, cnd_true]
    have e1 : Nat.beq (c / 2) l.length = false := by
      cases hq : Nat.beq (c / 2) l.length with
      | false => rfl
      | true => have := Nat.eq_of_beq_eq_true hq; omega
    rw [e1, cnd_false]
    exact ⟨_, rfl⟩
  · have e1 : Nat.beq (c % 2) 1 = false := by
      cases hq : Nat.beq (c % 2) 1 with
      | false => rfl
      | true => exact absurd (Nat.eq_of_beq_eq_true hq) od
    rw [e1, cnd_false, cells_es hc, ob_s, beq_nat rfl, gd_true]
    exact ⟨_, rfl⟩
theorem append_in {st xt : TypeId} {y : Nat} {x : Value} {l' : List α} (hb : apT P st xt = some (es, y)) (hes : ∀ x, (e x).length = es) (hes1 : 1 ≤ es) (hsc : ∀ x, (e x).all scal = true) (ho : OW e es h (.slice (some ⟨b, o, none⟩) l.length c) l) (hx : SL e es h x l')
    (hb1 : (l.length + l'.length) * y ≤ 1099511627776) (hb2 : l.length + l'.length ≤ 1099511627776) (hfit : l.length + l'.length ≤ c / 2) :
    ∃ h', APPEND P h st xt (.slice (some ⟨b, o, none⟩) l.length c) x = some (.slice (some ⟨b, o, none⟩) (l.length + l'.length) c, h') ∧ OW e es h' (.slice (some ⟨b, o, none⟩) (l.length + l'.length) c) (l ++ l') ∧ Mod (fun i => i = b) h h' ∧ h'.next = h.next := by
  obtain ⟨⟨v, h'⟩, e1, o1, m1, _⟩ := append_ev hb hes hes1 hsc ho hx hb1 hb2
  obtain ⟨cs, hlt, hc, hcap, hl, _⟩ := ho.parts
  have hnew : (l'.flatMap e).all scal = true := by
    rw [List.all_eq_true]
    intro u hu
    obtain ⟨x, _, hx⟩ := List.mem_flatMap.1 hu
    exact List.all_eq_true.1 (hsc x) u hx
  have hmul2 := Nat.mul_le_mul_right es hfit
  rw [Nat.add_mul] at hmul2
  have hfit2 : o + l.length * es + (l'.flatMap e).length ≤ cs.length := by rw [flatMap_len hes]; omega
  have e2 : APPEND P h st xt (.slice (some ⟨b, o, none⟩) l.length c) x = some (.slice (some ⟨b, o, none⟩) (l.length + l'.length) c, h.set b (.cells (splice cs (o + l.length * es) (l'.flatMap e)) es)) := by
    unfold APPEND
    rw [append_ob, hb, ob_s, hx.src hes, ob_s]
    unfold apGo
    rw [beq_nat (flatMap_len hes l'), gd_true, ble_nat hfit, cnd_true]
    show ob (h.wr b (o + l.length * es) (l'.flatMap e)) (fun h' => some (Value.slice (some ⟨b, o, none⟩) (l.length + l'.length) c, h')) = _
    rw [wr_eq, hc, wrc_c _ _ _ _ _ _ hfit2 hnew, ob_s]
  rw [e2] at e1
  cases e1
  exact ⟨_, e2, o1, m1.mono fun i _ q => q.symm, next_set _ _ _⟩
noncomputable def clT (P : Program) (t : TypeId) : Option (Nat × List Value) := ob (P.underlying t) fun d => ob (sliceE d) fun e => ob (sizeT P e) fun sz => ob (zeroT P e) fun z => gd (Nat.beq (cellsL z).length sz) (gd (Nat.ble 1 sz) (some (sz, cellsL (enc z))))
noncomputable def CLEAR (P : Program) (h : Heap) (t : TypeId) (x : Value) : VH := evClear P h t x
theorem B_clear (t : TypeId) (l : List TypeId) (x : Value) : evBuiltin P h .clear (t :: l) [x] = CLEAR P h t x := (rfl)
theorem clear_pos {n c' sz : Nat} {z : List Value} (hc : clT P t = some (sz, z)) (hn : n ≠ 0) : CLEAR P h t (.slice (some ⟨b, o, none⟩) n c') = ob (h.wr b o (zeroRow z n)) fun h' => some (undef, h') := by
  unfold clT at hc
  obtain ⟨d, h1, hc⟩ := ob_inv hc
  obtain ⟨e, h2, hc⟩ := ob_inv hc
  obtain ⟨s, h3, hc⟩ := ob_inv hc
  obtain ⟨z', h4, hc⟩ := ob_inv hc
  obtain ⟨h5, hc⟩ := gd_inv hc
  obtain ⟨h6, hc⟩ := gd_inv hc
  cases hc
  have h0 : Nat.beq n 0 = false := by
    cases hq : Nat.beq n 0 with
    | false => rfl
    | true => exact absurd (Nat.eq_of_beq_eq_true hq) hn
  unfold CLEAR evClear
  rw [h1, ob_some, h2, ob_some, h3, ob_some]
  show cnd (Nat.beq n 0) _ _ = _
  rw [h0, cnd_false, h4, ob_some, h5, gd_true, h6, gd_true]
/-- one's own is kept, where what lies behind it is cleared -/
theorem OW.clear (s : OW e es h (.slice (some ⟨b, o, none⟩) l.length c) l) {m c' : Nat} {z : List Value} (hc : clT P t = some (es, z)) (hz : z.length = es) (hzs : z.all scal = true) (hi : l.length < m) (hm : m ≤ c / 2) :
    ∃ h', CLEAR P h t (.slice (some ⟨b, o + l.length * es, none⟩) (m - l.length) c') = some (undef, h') ∧ OW e es h' (.slice (some ⟨b, o, none⟩) l.length c) l ∧ Mod (fun i => i = b) h h' ∧ h'.next = h.next := by
  obtain ⟨cs, hb, hcc, hcap, hl, hx⟩ := s.parts
  have hlen : (zeroRow z (m - l.length)).length = (m - l.length) * es := by unfold zeroRow; rw [List.length_map, List.length_range, hz]
  have hle : m * es ≤ (c / 2) * es := Nat.mul_le_mul_right _ hm
  have hsum : l.length * es + (m - l.length) * es = m * es := by rw [← Nat.add_mul]; congr 1; omega
  have hfit : o + l.length * es + (zeroRow z (m - l.length)).length ≤ cs.length := by omega
  have hall : (zeroRow z (m - l.length)).all scal = true := by
    generalize m - l.length = n
    induction n with
    | zero => rw [zeroRow_z]; rfl
    | succ n ih => rw [zeroRow_s, List.all_append, hzs, ih]; rfl
  rw [clear_pos hc (by omega), wr_eq, hcc, wrc_c _ _ _ _ _ _ hfit hall, ob_some]
  refine ⟨_, rfl, ?_, (Mod.refl _ _).set _ _ fun _ => rfl, next_set _ _ _⟩
  refine OW.mk b o c l _ (by rw [next_set]; exact hb) (get_set_same _ _ _) hcap (by rw [splice_len]; exact hl) fun i x hi => ?_
  rw [← hx i x hi]
  apply List.ext_getElem?
  intro j
  by_cases hj : j < es
  · have hin := (List.getElem?_eq_some_iff.1 hi).1
    have h2 := Nat.mul_le_mul_right es (show i + 1 ≤ l.length from hin)
    rw [Nat.add_mul, Nat.one_mul] at h2
    rw [List.getElem?_take_of_lt hj, List.getElem?_take_of_lt hj, List.getElem?_drop, List.getElem?_drop, splice_get hfit, if_neg (by omega)]
  · rw [List.getElem?_eq_none (by rw [List.length_take]; omega), List.getElem?_eq_none (by rw [List.length_take]; omega)]
end
end Go.Proofs.Ytbbdhpjkibbnkaa.EV
