/-
  SY, part 6: slices of one's own (they may grow), slices cut, bytes, texts, bits. No condition.
-/
import Derived.Test.YtddgcakiceodgaaGreatSy5
namespace Go.Proofs.YtddgcakiceodgaaGreat.EV
set_option linter.unusedVariables false
set_option linter.unusedSimpArgs false
open Go Go.RowKit

/-- a slice that may grow -/
inductive OW {α : Type} (e : α → List Value) (es : Nat) (h : Heap) : Value → List α → Prop
  | nil : OW e es h (.slice none 0 1) []
  | mk (b o c : Nat) (l : List α) (cs : List Value) (hb : b < h.next) (hc : h.get b = .cells cs es) (hcap : l.length ≤ c / 2) (hl : o + (c / 2) * es ≤ cs.length)
      (hx : ∀ i x, l[i]? = some x → (cs.drop (o + i * es)).take es = e x) : OW e es h (.slice (some ⟨b, o, none⟩) l.length c) l
/-- the block behind a slice -/
noncomputable def blkOf (v : Value) (i : Nat) : Prop := match v with
  | .slice (some ⟨b, _, _⟩) _ _ => b = i
  | _ => False
/-- it lies in no block below that number -/
noncomputable def Fresh (n : Nat) (v : Value) : Prop := ∀ i, blkOf v i → n ≤ i
theorem Fresh.nil (n m c : Nat) : Fresh n (.slice none m c) := fun i h => h.elim
theorem Fresh.mk {n b : Nat} (o m c : Nat) (h : n ≤ b) : Fresh n (.slice (some ⟨b, o, none⟩) m c) := fun i e => by cases e; exact h
theorem Fresh.mono {n m : Nat} {v : Value} (h : Fresh n v) (k : m ≤ n) : Fresh m v := fun i e => Nat.le_trans k (h i e)

section
variable {α : Type} {e : α → List Value} {es : Nat} {h h' : Heap} {v : Value} {l : List α}
theorem OW.sl (s : OW e es h v l) : SL e es h v l := by
  cases s with
  | nil => exact .nil
  | mk b o c l cs hb hc hcap hl hx =>
    have := Nat.mul_le_mul_right es hcap
    exact .mk b o c l cs hb (by rw [hc]; rfl) (by omega) hx hcap (.inr ⟨cs, hc⟩)
theorem OW.mod {S : Nat → Prop} (s : OW e es h v l) (x : Mod S h h') (ho : ∀ i, blkOf v i → ¬ S i) : OW e es h' v l := by
  cases s with
  | nil => exact .nil
  | mk b o c l cs hb hc hcap hl hx => exact .mk b o c l cs (Nat.lt_of_lt_of_le hb x.le) (by rw [x.old b hb (ho b rfl)]; exact hc) hcap hl hx
theorem OW.ext (s : OW e es h v l) (x : Ext h h') : OW e es h' v l := s.mod (x.mod fun _ => False) fun _ _ q => q
theorem SL.modB {S : Nat → Prop} (s : SL e es h v l) (x : Mod S h h') (ho : ∀ i, blkOf v i → ¬ S i) : SL e es h' v l := by
  refine s.mod x ?_
  cases s with
  | nil => trivial
  | mk b o c l cs hb hc hl hx hcap hq => exact ho b rfl
theorem SL.lt (s : SL e es h v l) {i : Nat} (hi : blkOf v i) : i < h.next := by
  cases s with
  | nil => exact hi.elim
  | mk b o c l cs hb hc hl hx hcap hq => cases hi; exact hb
theorem OW.lt (s : OW e es h v l) {i : Nat} (hi : blkOf v i) : i < h.next := s.sl.lt hi
theorem OW.val (s : OW e es h v l) : ∃ a c, v = .slice a l.length c := s.sl.val
/-- a new row -/
theorem OW.new {b : Nat} (hes : ∀ x, (e x).length = es) (hb : b < h.next) (hc : h.get b = .cells (l.flatMap e) es) {m c : Nat} (hm : m = l.length) (hcc : c / 2 = l.length) : OW e es h (.slice (some ⟨b, 0, none⟩) m c) l := by
  subst hm
  refine .mk b 0 c l _ hb hc (by omega) (by rw [flatMap_len hes, hcc]; omega) fun i x hx => ?_
  rw [Nat.zero_add]; exact flatMap_at hes l i x hx

theorem OW.lit (hes : ∀ x, (e x).length = es) (h : Heap) (l : List α) : OW e es (h.push (.cells (l.flatMap e) es)) (.slice (some ⟨h.next, 0, none⟩) l.length (2 * l.length + 1)) l :=
  OW.new hes (by rw [next_push]; omega) (get_push_new _ _) rfl (by omega)
theorem splice_eq : ∀ (xs c : List Value) (o : Nat), o + xs.length ≤ c.length → splice c o xs = c.take o ++ (xs ++ c.drop (o + xs.length))
  | [], c, o, _ => by simp [splice]
  | x :: xs, c, o, h => by
    simp only [List.length_cons] at h
    rw [splice, splice_eq xs _ (o + 1) (by simp; omega), List.take_add_one, List.getElem?_set_self (by omega)]
    rw [List.take_set_of_le (Nat.le_refl _), List.drop_set_of_lt (by omega)]
    simp only [Option.toList_some, List.append_assoc, List.singleton_append, List.length_cons, List.cons_append, List.nil_append]
    rw [show o + 1 + xs.length = o + (xs.length + 1) by omega]
theorem drop_take_ext {a b : List Value} {o n : Nat} (h : ∀ i, i < n → a[o + i]? = b[o + i]?) : (a.drop o).take n = (b.drop o).take n := by
  apply List.ext_getElem?
  intro i
  by_cases q : i < n
  · rw [List.getElem?_take_of_lt q, List.getElem?_take_of_lt q, List.getElem?_drop, List.getElem?_drop, h i q]
  · rw [List.getElem?_eq_none (by rw [List.length_take]; omega), List.getElem?_eq_none (by rw [List.length_take]; omega)]
theorem splice_get {xs c : List Value} {o : Nat} (h : o + xs.length ≤ c.length) (i : Nat) : (splice c o xs)[i]? = if o ≤ i ∧ i < o + xs.length then xs[i - o]? else c[i]? := by
  rw [splice_eq _ _ _ h]
  by_cases q : i < o
  · rw [List.getElem?_append_left (by rw [List.length_take]; omega), List.getElem?_take_of_lt q, if_neg (by omega)]
  · rw [List.getElem?_append_right (by rw [List.length_take]; omega), List.length_take, Nat.min_eq_left (by omega)]
    by_cases r : i < o + xs.length
    · rw [List.getElem?_append_left (by omega), if_pos (by omega)]
    · rw [List.getElem?_append_right (by omega), if_neg (by omega), List.getElem?_drop]
      congr 1; omega
theorem splice_len : ∀ (xs c : List Value) (o : Nat), (splice c o xs).length = c.length
  | [], c, o => rfl
  | x :: xs, c, o => by
    show (splice (c.set o x) (Nat.succ o) xs).length = _
    rw [splice_len xs, List.length_set]
/-- one element laid anew -/
theorem OW.put (s : OW e es h v l) (hes : ∀ x, (e x).length = es) (i : Nat) (x : α) (hi : i < l.length) :
    ∃ b o c cs, v = .slice (some ⟨b, o, none⟩) l.length c ∧ b < h.next ∧ h.get b = .cells cs es ∧ o + i * es + es ≤ cs.length ∧ OW e es (h.set b (.cells (splice cs (o + i * es) (e x)) es)) v (l.set i x) := by
  cases s with
  | nil => simp at hi
  | mk b o c l cs hb hc hcap hl hx =>
    have h1 : i * es + es ≤ (c / 2) * es := by rw [← Nat.succ_mul]; exact Nat.mul_le_mul_right es (by omega)
    have h2 : o + i * es + es ≤ cs.length := by omega
    refine ⟨b, o, c, cs, rfl, hb, hc, h2, ?_⟩
    have hls : (l.set i x).length = l.length := List.length_set
    rw [← hls]
    refine .mk b o c (l.set i x) _ (by rw [next_set]; exact hb) (get_set_same _ _ _) (by rw [hls]; exact hcap) (by rw [splice_len]; exact hl) fun j y hj => ?_
    have hjl : j < l.length := by rw [← hls]; exact (List.getElem?_eq_some_iff.1 hj).1
    rw [List.getElem?_set] at hj
    by_cases q : i = j
    · subst q
      rw [if_pos rfl, if_pos hi] at hj
      cases hj
      apply List.ext_getElem?
      intro k
      by_cases kk : k < es
      · rw [List.getElem?_take_of_lt kk, List.getElem?_drop, splice_get (by rw [hes]; omega), if_pos ⟨by omega, by rw [hes]; omega⟩, Nat.add_sub_cancel_left]
      · rw [List.getElem?_eq_none (by rw [List.length_take]; omega), List.getElem?_eq_none (by rw [hes]; omega)]
    · rw [if_neg q] at hj
      have h3 := hx j y hj
      rw [← h3]
      apply List.ext_getElem?
      intro k
      by_cases kk : k < es
      · rw [List.getElem?_take_of_lt kk, List.getElem?_take_of_lt kk, List.getElem?_drop, List.getElem?_drop, splice_get (by rw [hes]; omega), if_neg]
        rw [hes]
        rintro ⟨q1, q2⟩
        rcases Nat.lt_or_gt_of_ne q with q3 | q3
        · have := Nat.mul_le_mul_right es (show i + 1 ≤ j from q3)
          rw [Nat.succ_mul] at this
          omega
        · have := Nat.mul_le_mul_right es (show j + 1 ≤ i from q3)
          rw [Nat.succ_mul] at this
          omega
      · rw [List.getElem?_eq_none (by rw [List.length_take]; omega), List.getElem?_eq_none (by rw [List.length_take]; omega)]
theorem rows_eq (hes : ∀ x, (e x).length = es) {cs : List Value} : ∀ (l : List α) (o : Nat), o + l.length * es ≤ cs.length → (∀ i x, l[i]? = some x → (cs.drop (o + i * es)).take es = e x) → (cs.drop o).take (l.length * es) = l.flatMap e
  | [], o, _, _ => by simp
  | a :: l, o, hl, hx => by
    rw [List.length_cons, Nat.add_mul, Nat.one_mul] at hl
    have h0 := hx 0 a rfl
    rw [Nat.zero_mul, Nat.add_zero] at h0
    have h1 := rows_eq (cs := cs) hes l (o + es) (by omega) fun i x hi => by
      have := hx (i + 1) x (by simpa using hi)
      rw [Nat.add_mul, Nat.one_mul] at this
      rw [show o + es + i * es = o + (i * es + es) by omega]; exact this
    rw [List.flatMap_cons, ← h0, ← h1, List.length_cons, Nat.add_mul, Nat.one_mul, Nat.add_comm (l.length * es) es, List.take_add, List.drop_drop]
/-- what is to be laid behind -/
theorem SL.src (s : SL e es h v l) (hes : ∀ x, (e x).length = es) : srcCells h es v = some (l.length, l.flatMap e) := by
  cases s with
  | nil => rfl
  | mk b o c l cs hb hc hl hx hcap hq =>
    show ob (h.rd b o (l.length * es)) (fun c => some (l.length, c)) = _
    rw [rd_eq, rdc_of hc _ _ hl, rows_eq hes l o hl hx]
    rfl
/-- laid behind -/
theorem ow_append {s : Value} {l' : List α} (hes : ∀ x, (e x).length = es) (hes1 : 1 ≤ es) (hsc : ∀ x, (e x).all scal = true) (ho : OW e es h s l) (y : Nat) (hb1 : (l.length + l'.length) * y ≤ 1099511627776) (hb2 : l.length + l'.length ≤ 1099511627776) :
    ∃ a c, s = .slice a l.length c ∧ WPo (apGo h es y l.length c a l'.length (l'.flatMap e)) fun q => OW e es q.2 q.1 (l ++ l') ∧ Mod (blkOf s) h q.2 ∧ ∀ i, blkOf q.1 i → blkOf s i ∨ h.next ≤ i := by
  have hnew : (l'.flatMap e).all scal = true := by
    rw [List.all_eq_true]
    intro u hu
    obtain ⟨x, _, hx⟩ := List.mem_flatMap.1 hu
    exact List.all_eq_true.1 (hsc x) u hx
  have hbeq : Nat.beq (l'.flatMap e).length (l'.length * es) = true := beq_nat (flatMap_len hes l')
  have fin : ∀ (h1 : Heap) (x : List α), x.length = l.length + l'.length → h.next ≤ h1.next → OW e es (h1.push (.cells (x.flatMap e) es)) (.slice (some ⟨h1.next, 0, none⟩) (l.length + l'.length) (2 * (l.length + l'.length))) x := fun h1 x hx hn =>
    OW.new hes (by rw [next_push]; omega) (get_push_new _ _) (by omega) (by omega)
  cases ho with
  | nil =>
    refine ⟨_, _, rfl, ?_⟩
    unfold apGo
    rw [hbeq, gd_true]
    by_cases q : l'.length = 0
    · have : l' = [] := List.length_eq_zero_iff.1 q
      subst this
      exact ⟨(.slice none 0 1, h), rfl, .nil, Mod.refl _ _, fun i hi => .inl hi⟩
    · have hble : Nat.ble (([] : List α).length + l'.length) (1 / 2) = false := by
        cases hq : Nat.ble (([] : List α).length + l'.length) (1 / 2) with
        | false => rfl
        | true => have := Nat.le_of_ble_eq_true hq; simp only [List.length_nil] at this; omega
      rw [hble, cnd_false, ble_nat hb1, gd_true, ble_nat hb2, gd_true]
      show WPo (apNew h es 0 l'.length (l'.flatMap e)) _
      refine ⟨_, rfl, ?_, (Mod.refl _ _).push _, fun i hi => .inr (by cases hi; exact Nat.le_refl _)⟩
      have := fin h l' (by simp) (Nat.le_refl _)
      simpa using this
  | mk b o c l cs hb hc hcap hl hx =>
    refine ⟨_, _, rfl, ?_⟩
    unfold apGo
    rw [hbeq, gd_true]
    have hmul := Nat.mul_le_mul_right es hcap
    by_cases q : l.length + l'.length ≤ c / 2
    · rw [ble_nat q, cnd_true]
      have hmul2 := Nat.mul_le_mul_right es q
      rw [Nat.add_mul] at hmul2
      have hfit : o + l.length * es + (l'.flatMap e).length ≤ cs.length := by rw [flatMap_len hes]; omega
      show WPo (ob (h.wr b (o + l.length * es) (l'.flatMap e)) fun h' => some (Value.slice (some ⟨b, o, none⟩) (l.length + l'.length) c, h')) _
      rw [wr_eq, hc, wrc_c _ _ _ _ _ _ hfit hnew, ob_s]
      refine ⟨_, rfl, ?_, (Mod.refl _ _).set _ _ fun _ => rfl, fun i hi => .inl hi⟩
      have := OW.mk (e := e) (es := es) (h := h.set b (.cells (splice cs (o + l.length * es) (l'.flatMap e)) es)) b o c (l ++ l') (splice cs (o + l.length * es) (l'.flatMap e)) hb (get_set_same _ _ _) (by rw [List.length_append]; exact q) (by rw [splice_length]; exact hl) (fun i x hi => by
        have hin : i < l.length + l'.length := by have := (List.getElem?_eq_some_iff.1 hi).1; rwa [List.length_append] at this
        by_cases r : i < l.length
        · rw [List.getElem?_append_left r] at hi
          rw [← hx i x hi]
          refine drop_take_ext fun j hj => ?_
          rw [splice_get hfit, if_neg]
          have : (i + 1) * es ≤ l.length * es := Nat.mul_le_mul_right _ r
          rw [Nat.add_mul, Nat.one_mul] at this
          omega
        · rw [List.getElem?_append_right (by omega)] at hi
          rw [← flatMap_at hes l' _ x hi]
          apply List.ext_getElem?
          intro j
          by_cases hj : j < es
          · rw [List.getElem?_take_of_lt hj, List.getElem?_take_of_lt hj, List.getElem?_drop, List.getElem?_drop, splice_get hfit]
            have e1 : i * es = l.length * es + (i - l.length) * es := by rw [← Nat.add_mul]; congr 1; omega
            have hlt : (i - l.length + 1) * es ≤ l'.length * es := Nat.mul_le_mul_right _ (by omega)
            rw [Nat.add_mul, Nat.one_mul] at hlt
            rw [if_pos (by rw [flatMap_len hes]; omega)]
            congr 1; omega
          · rw [List.getElem?_eq_none (by rw [List.length_take]; omega), List.getElem?_eq_none (by rw [List.length_take]; omega)])
      rw [List.length_append] at this
      exact this
    · have hble : Nat.ble (l.length + l'.length) (c / 2) = false := by
        cases hq : Nat.ble (l.length + l'.length) (c / 2) with
        | false => rfl
        | true => exact absurd (Nat.le_of_ble_eq_true hq) q
      rw [hble, cnd_false, ble_nat hb1, gd_true, ble_nat hb2, gd_true]
      have hold : h.rd b o (l.length * es) = some (l.flatMap e) := by
        rw [rd_eq, hc, rdc_c _ _ _ _ (by omega), rows_eq hes l o (by omega) hx]
      show WPo (ob (h.rd b o (l.length * es)) fun old => cnd (Nat.beq (c % 2) 1) (apNew h es l.length l'.length (old ++ l'.flatMap e)) (ob (cellsEs (h.get b)) fun es' => gd (Nat.beq es' es) (gd ((l'.flatMap e).all scal) (apNew (h.set b .dead) es l.length l'.length (old ++ l'.flatMap e))))) _
      rw [hold, ob_s]
      cases Nat.beq (c % 2) 1 with
      | true =>
        rw [cnd_true]
        refine ⟨_, rfl, ?_, (Mod.refl _ _).push _, fun i hi => .inr (by cases hi; exact Nat.le_refl _)⟩
        rw [← List.flatMap_append]
        exact fin h (l ++ l') List.length_append (Nat.le_refl _)
      | false =>
        rw [cnd_false, hc]
        show WPo (gd (Nat.beq es es) _) _
        rw [beq_nat rfl, gd_true, hnew, gd_true]
        refine ⟨_, rfl, ?_, ((Mod.refl _ _).set _ _ fun _ => rfl).push _, fun i hi => .inr (by cases hi; exact Nat.le_refl _)⟩
        rw [← List.flatMap_append]
        exact fin (h.set b .dead) (l ++ l') List.length_append (Nat.le_refl _)
theorem append_ev {P : Program} {st xt : TypeId} {y : Nat} {s x : Value} {l' : List α} (hb : apT P st xt = some (es, y)) (hes : ∀ x, (e x).length = es) (hes1 : 1 ≤ es) (hsc : ∀ x, (e x).all scal = true) (ho : OW e es h s l) (hx : SL e es h x l')
    (hb1 : (l.length + l'.length) * y ≤ 1099511627776) (hb2 : l.length + l'.length ≤ 1099511627776) :
    WPo (APPEND P h st xt s x) fun q => OW e es q.2 q.1 (l ++ l') ∧ Mod (blkOf s) h q.2 ∧ ∀ i, blkOf q.1 i → blkOf s i ∨ h.next ≤ i := by
  obtain ⟨a, c, rfl, hw⟩ := ow_append hes hes1 hsc ho y hb1 hb2 (l' := l')
  unfold APPEND
  rw [append_ob, hb, ob_s, hx.src hes, ob_s]
  exact hw
/-- one's own row, with more behind, the rest lying as it lay -/
theorem append_own {P : Program} {st xt : TypeId} {y : Nat} {s x : Value} {l' : List α} {h0 : Heap} {Q : Value × Heap → Prop} (hb : apT P st xt = some (es, y)) (hes : ∀ x, (e x).length = es) (hes1 : 1 ≤ es) (hsc : ∀ x, (e x).all scal = true) (x0 : Ext h0 h) (ho : OW e es h s l) (hf : Fresh h0.next s) (hx : SL e es h x l')
    (hb1 : (l.length + l'.length) * y ≤ 1099511627776) (hb2 : l.length + l'.length ≤ 1099511627776)
    (k : ∀ v h', OW e es h' v (l ++ l') → Fresh h0.next v → Ext h0 h' → Mod (blkOf s) h h' → (∀ i, blkOf v i → blkOf s i ∨ h.next ≤ i) → Q (v, h')) : WPo (APPEND P h st xt s x) Q := by
  refine (append_ev hb hes hes1 hsc ho hx hb1 hb2).mono ?_
  rintro ⟨v, h'⟩ ⟨a, b, c⟩
  refine k v h' a (fun i hi => ?_) ?_ b c
  · rcases c i hi with q | q
    · exact hf i q
    · exact Nat.le_trans x0.le q
  · exact ⟨Nat.le_trans x0.le b.le, fun i hi => (b.old i (Nat.lt_of_lt_of_le hi x0.le) fun q => by have := hf i q; omega).trans (x0.old i hi)⟩
end

/-- grown out of s: nothing but s's block turned, and it lies there or in a new one -/
structure Gr (s : Value) (h : Heap) (v : Value) (h' : Heap) : Prop where
  le : h.next ≤ h'.next
  old : ∀ b, b < h.next → ¬ blkOf s b → h'.get b = h.get b
  src : ∀ i, blkOf v i → blkOf s i ∨ h.next ≤ i
theorem Gr.refl (s : Value) (h : Heap) : Gr s h s h := ⟨Nat.le_refl _, fun _ _ _ => rfl, fun _ => .inl⟩
theorem Gr.trans {s v w : Value} {a b c : Heap} (h : Gr s a v b) (k : Gr v b w c) : Gr s a w c := ⟨Nat.le_trans h.le k.le, fun i hi hs => (k.old i (Nat.lt_of_lt_of_le hi h.le) (fun q => by rcases h.src i q with q | q; exact hs q; omega)).trans (h.old i hi hs), fun i hi => by
  rcases k.src i hi with q | q
  · exact h.src i q
  · exact .inr (Nat.le_trans h.le q)⟩
theorem Gr.ext {s v : Value} {a b c : Heap} (h : Gr s a v b) (k : Ext b c) : Gr s a v c := ⟨Nat.le_trans h.le k.le, fun i hi hs => (k.old i (Nat.lt_of_lt_of_le hi h.le)).trans (h.old i hi hs), h.src⟩
theorem Gr.push {s v : Value} {a b : Heap} (h : Gr s a v b) (x : Blk) : Gr s a v (b.push x) := h.ext ((Ext.refl b).push x)
theorem Gr.mod {s v : Value} {a b : Heap} (h : Gr s a v b) : Mod (blkOf s) a b := ⟨h.le, h.old⟩
theorem Gr.fresh {s v : Value} {a b : Heap} {n : Nat} (h : Gr s a v b) (hf : Fresh n s) (hn : n ≤ a.next) : Fresh n v := fun i hi => by
  rcases h.src i hi with q | q
  · exact hf i q
  · omega
theorem Gr.ext0 {s v : Value} {a b h0 : Heap} (h : Gr s a v b) (x : Ext h0 a) (hf : Fresh h0.next s) : Ext h0 b := ⟨Nat.le_trans x.le h.le, fun i hi => (h.old i (Nat.lt_of_lt_of_le hi x.le) (fun q => by have := hf i q; omega)).trans (x.old i hi)⟩
/-- out of a new literal -/
theorem Gr.new {h : Heap} {x : Blk} {o m c : Nat} {w : Value} {h' : Heap} (g : Gr (.slice (some ⟨h.next, o, none⟩) m c) (h.push x) w h') : Ext h h' ∧ Fresh h.next w := ⟨g.ext0 ((Ext.refl h).push x) (Fresh.mk _ _ _ (Nat.le_refl _)), g.fresh (Fresh.mk _ _ _ (Nat.le_refl _)) (by rw [next_push]; omega)⟩
theorem Gr.new' {h : Heap} {x : Blk} {b o m c : Nat} {w : Value} {h' : Heap} (g : Gr (.slice (some ⟨b, o, none⟩) m c) (h.push x) w h') (hb : b = h.next) : Ext h h' ∧ Fresh h.next w := by
  subst hb
  exact g.new
theorem append_gr {α : Type} {e : α → List Value} {es : Nat} {h : Heap} {l : List α} {P : Program} {st xt : TypeId} {y : Nat} {s x : Value} {l' : List α} {Q : Value × Heap → Prop} (hb : apT P st xt = some (es, y)) (hes : ∀ x, (e x).length = es) (hes1 : 1 ≤ es) (hsc : ∀ x, (e x).all scal = true) (ho : OW e es h s l) (hx : SL e es h x l')
    (hb1 : (l.length + l'.length) * y ≤ 1099511627776) (hb2 : l.length + l'.length ≤ 1099511627776)
    (k : ∀ v h', OW e es h' v (l ++ l') → Gr s h v h' → Q (v, h')) : WPo (APPEND P h st xt s x) Q := by
  refine (append_ev hb hes hes1 hsc ho hx hb1 hb2).mono ?_
  rintro ⟨v, h'⟩ ⟨a, b, c⟩
  exact k v h' a ⟨b.le, b.old, c⟩
/-! ## cuts -/
theorem zeroRow_get (z : List Value) (n i : Nat) : (zeroRow z n)[i]? = if i < n * z.length then some (z.getD (i % z.length) undef) else none := by
  unfold zeroRow
  rw [List.getElem?_map]
  by_cases q : i < n * z.length
  · rw [if_pos q, List.getElem?_range q]; rfl
  · rw [if_neg q, List.getElem?_eq_none (by simp; omega)]; rfl
theorem zeroRow_z (z : List Value) : zeroRow z 0 = [] := by
  unfold zeroRow
  simp
theorem zeroRow_s (z : List Value) (n : Nat) : zeroRow z (n + 1) = z ++ zeroRow z n := by
  apply List.ext_getElem?
  intro i
  rw [zeroRow_get]
  by_cases q : i < z.length
  · rw [List.getElem?_append_left q, if_pos (by rw [Nat.add_mul]; omega), Nat.mod_eq_of_lt q, List.getD_eq_getElem?_getD, List.getElem?_eq_getElem q]
    rfl
  · rw [List.getElem?_append_right (by omega), zeroRow_get, Nat.add_mul, Nat.one_mul]
    by_cases r : i - z.length < n * z.length
    · rw [if_pos r, if_pos (by omega), Nat.mod_eq_sub_mod (by omega)]
    · rw [if_neg r, if_neg (by omega)]
theorem natOf_nat (k : IntKind) (n : Nat) : natOf (.int k (n : Int)) = some n := by
  show (if (n : Int) < 0 then none else some (n : Int).toNat) = _
  rw [if_neg (by omega)]; rfl
theorem natOf_int {k : IntKind} {i : Int} (h : 0 ≤ i) : natOf (.int k i) = some i.toNat := by
  show (if i < 0 then none else some i.toNat) = _
  rw [if_neg (by omega)]
theorem cut_ev {α : Type} {e : α → List Value} {es : Nat} {h : Heap} {P : Program} {t : TypeId} {v : Value} {l : List α} (ht : slT P t = some es) (hs : SL e es h v l) (lo hi : Option Value) (n m : Nat) (hlo : (match lo with | none => some 0 | some v => natOf v) = some n) (hhi : (match hi with | none => some l.length | some v => natOf v) = some m) (hn : n ≤ m) (hm : m ≤ l.length) :
    ∃ u, CUT P h t v lo hi none = some (u, h) ∧ SL e es h u ((l.take m).drop n) ∧ ∀ i, blkOf u i → blkOf v i := by
  have ends : ∀ c, l.length ≤ c → cutEnds l.length c lo hi none = some (n, m, c, false) := fun c hc => by
    unfold cutEnds
    cases lo with
    | none =>
      cases hlo
      cases hi with
      | none => cases hhi; simp only [cnd_false]
      | some v => simp only at hhi; simp only [hhi, ble_nat (Nat.le_trans hm hc), cnd_true]
    | some u =>
      simp only at hlo
      cases hi with
      | none => cases hhi; simp only [cnd_false, hlo, ble_nat hn, cnd_true]
      | some v => simp only at hhi; simp only [hhi, ble_nat (Nat.le_trans hm hc), cnd_true, hlo, ble_nat hn]
  have hlen : ((l.take m).drop n).length = m - n := by rw [List.length_drop, List.length_take]; omega
  cases hs with
  | nil =>
    have e0 : cutEnds 0 0 lo hi none = some (n, m, 0, false) := ends 0 (Nat.le_refl _)
    rw [CUT_nil, ht, ob_s, show (1 / 2 : Nat) = 0 from rfl, e0, ob_s]
    simp only [List.length_nil] at hm
    have : n = 0 := by omega
    have : m = 0 := by omega
    subst n; subst m
    exact ⟨_, rfl, .nil, fun i hi => hi⟩
  | mk b o c l cs hb hc hl hx hcap hq =>
    rw [CUT_sl, ht, ob_s, ends _ hcap, ob_s]
    have hge : ∀ i x, ((l.take m).drop n)[i]? = some x → (cs.drop (o + n * es + i * es)).take es = e x := fun i x hi => by
      rw [List.getElem?_drop, List.getElem?_take] at hi
      split at hi
      · have := hx _ x hi
        rw [Nat.add_mul] at this
        rw [Nat.add_assoc]; exact this
      · cases hi
    have hle : m * es ≤ l.length * es := Nat.mul_le_mul_right _ hm
    have hsum : n * es + (m - n) * es = m * es := by rw [← Nat.add_mul]; congr 1; omega
    unfold evCutSl
    rw [Bool.false_or]
    by_cases od : c % 2 = 1
    · rw [beq_nat od, cnd_true]
      refine ⟨_, rfl, ?_, fun i hi => by simpa [blkOf] using hi⟩
      by_cases hz : c / 2 = n
      · have hmz : m = n := by omega
        subst hmz
        have hemp : (l.take m).drop m = [] := by rw [List.drop_eq_nil_iff, List.length_take]; omega
        rw [hemp, beq_nat hz, cnd_true, Nat.sub_self]
        exact .mk b o _ [] cs hb hc (by simp; omega) (fun i x hi => by simp at hi) (by simp) (.inl (by omega))
      · have : Nat.beq (c / 2) n = false := by
          cases hq : Nat.beq (c / 2) n with
          | false => rfl
          | true => exact absurd (Nat.eq_of_beq_eq_true hq) hz
        rw [this, cnd_false]
        have hh := SL.mk (e := e) (es := es) (h := h) b (o + n * es) (2 * (c / 2 - n) + 1) ((l.take m).drop n) cs hb hc (by rw [hlen]; omega) hge (by rw [hlen]; omega) (.inl (by omega))
        rw [hlen] at hh
        exact hh
    · obtain ⟨cs', hq⟩ := hq.resolve_left od
      have : Nat.beq (c % 2) 1 = false := by
        cases hb' : Nat.beq (c % 2) 1 with
        | false => rfl
        | true => exact absurd (Nat.eq_of_beq_eq_true hb') od
      rw [this, cnd_false, hq]
      show ∃ u, gd (Nat.beq es es) _ = _ ∧ _
      rw [beq_nat rfl, gd_true]
      refine ⟨_, rfl, ?_, fun i hi => by simpa [blkOf] using hi⟩
      have hh := SL.mk (e := e) (es := es) (h := h) b (o + n * es) (2 * (c / 2 - n)) ((l.take m).drop n) cs hb hc (by rw [hlen]; omega) hge (by rw [hlen]; omega) (.inr ⟨cs', hq⟩)
      rw [hlen] at hh
      exact hh

section
variable {α : Type} {e : α → List Value} {es : Nat} {h : Heap} {P : Program} {t : TypeId} {v : Value} {l : List α} (ht : slT P t = some es) (hs : SL e es h v l)
include ht hs
theorem cut_to (k : IntKind) (i : Int) (m : Nat) (hi : i = m) (hm : m ≤ l.length) : ∃ u, CUT P h t v none (some (.int k i)) none = some (u, h) ∧ SL e es h u (l.take m) ∧ ∀ i, blkOf u i → blkOf v i := by
  subst hi
  exact cut_ev ht hs none (some (.int k m)) 0 m rfl (natOf_nat k m) (Nat.zero_le _) hm
theorem cut_from (k : IntKind) (i : Int) (n : Nat) (hi : i = n) (hn : n ≤ l.length) : ∃ u, CUT P h t v (some (.int k i)) none none = some (u, h) ∧ SL e es h u (l.drop n) ∧ ∀ i, blkOf u i → blkOf v i := by
  subst hi
  obtain ⟨u, a, b, c⟩ := cut_ev ht hs (some (.int k n)) none n l.length (natOf_nat k n) rfl hn (Nat.le_refl _)
  rw [List.take_length] at b
  exact ⟨u, a, b, c⟩
theorem cut_mid (k k' : IntKind) (i j : Int) (n m : Nat) (hi : i = n) (hj : j = m) (hn : n ≤ m) (hm : m ≤ l.length) : ∃ u, CUT P h t v (some (.int k i)) (some (.int k' j)) none = some (u, h) ∧ SL e es h u ((l.take m).drop n) ∧ ∀ i, blkOf u i → blkOf v i := by
  subst hi; subst hj
  exact cut_ev ht hs (some (.int k n)) (some (.int k' m)) n m (natOf_nat k n) (natOf_nat k' m) hn hm
end
/-! ## bytes, texts -/
noncomputable def byteE (b : UInt8) : List Value := [.int .u8 (b.toNat : Int)]
theorem byteE_len (b : UInt8) : (byteE b).length = 1 := rfl
theorem byteE_scal (b : UInt8) : (byteE b).all scal = true := rfl
theorem bytesOfL_flat (l : List UInt8) : bytesOfL (l.flatMap byteE) = some l := by
  induction l with
  | nil => rfl
  | cons b l ih =>
    rw [List.flatMap_cons]
    show (match bytesOfL (l.flatMap byteE) with | some r => some (UInt8.ofNat (b.toNat : Int).toNat :: r) | none => none) = _
    rw [ih]
    simp
/-- a text of bytes -/
noncomputable def strV (l : List UInt8) : Value := .string ⟨⟨l⟩⟩
theorem conv_str {P : Program} {h : Heap} {s d e : TypeId} {v : Value} {l : List UInt8} (hs : P.underlying s = some (.slice e)) (hd : P.underlying d = some .string) (he : P.underlying e = some (.int .u8)) (hv : SL byteE 1 h v l) : CONV P h s d v = some (strV l, h) := by
  unfold CONV
  cases hv with
  | nil =>
    show evConvSl P h s d none 0 1 = _
    unfold evConvSl
    simp only [hs, ob_s, sliceE, hd, isStrD, cnd_true, he, isU8D, gd_true, strOfSlice]
    rfl
  | mk b o c l cs hb hc hl hx hcap hq =>
    show evConvSl P h s d (some ⟨b, o, none⟩) l.length c = _
    unfold evConvSl
    simp only [hs, ob_s, sliceE, hd, isStrD, cnd_true, he, isU8D, gd_true, strOfSlice]
    have := rows_eq (e := byteE) (es := 1) (fun _ => rfl) l o hl hx
    rw [Nat.mul_one] at this hl
    rw [rd_eq, rdc_of hc _ _ hl, this, ob_s, bytesOfL_flat, ob_s, ob_s]
    rfl
theorem str_op (P : Program) (op : BinOp) (t : TypeId) (x y : Operand) (a b : List UInt8) (r : Value) (hg : eqGuard op t x y (strV a) (strV b) = pure ()) (hr : binOp op t (strV a) (strV b) = pure r) (hf : flat1 r = true) : evBin P op t x y (strV a) (strV b) = some r := by
  unfold evBin
  show orE none (cnd true (match absPure P (eqGuard op t x y (strV a) (strV b) >>= fun _ => binOp op t (strV a) (strV b)) with | some v => cnd (flat1 v) (some v) none | none => none) _) = _
  rw [hg, hr]
  show orE none (cnd true (cnd (flat1 r) (some r) none) _) = _
  rw [hf]
  rfl
theorem strV_toList (a : List UInt8) : (⟨⟨a⟩⟩ : ByteArray).toList = a := ByteArray.toList_eq _
theorem str_eql (P : Program) (t : TypeId) (x y : Operand) (a b : List UInt8) : evBin P .eql t x y (strV a) (strV b) = some (.bool (decide (a = b))) := by
  refine str_op P .eql t x y a b _ rfl ?_ rfl
  show Op.stringOp .eql ⟨⟨a⟩⟩ ⟨⟨b⟩⟩ = _
  unfold Op.stringOp
  rw [strV_toList, strV_toList]
  show pure (Value.bool (a == b)) = _
  rw [show (a == b) = decide (a = b) by cases h : a == b <;> simp_all]
theorem str_neq (P : Program) (t : TypeId) (x y : Operand) (a b : List UInt8) : evBin P .neq t x y (strV a) (strV b) = some (.bool (!decide (a = b))) := by
  refine str_op P .neq t x y a b _ rfl ?_ rfl
  show Op.stringOp .neq ⟨⟨a⟩⟩ ⟨⟨b⟩⟩ = _
  unfold Op.stringOp
  rw [strV_toList, strV_toList]
  show pure (Value.bool (!(a == b))) = _
  rw [show (a == b) = decide (a = b) by cases h : a == b <;> simp_all]

/-! ## bits -/
noncomputable def szK (k : IntKind) : Nat := match k with
  | .i8 | .u8 => 256
  | .i16 | .u16 => 65536
  | .i32 | .u32 => 4294967296
  | .i64 | .u64 => 18446744073709551616
theorem full_sz (k : IntKind) : fullK k = (szK k : Int) := by cases k <;> rfl
theorem natK_nat {k : IntKind} {n : Nat} (h : n < szK k) : natK k (n : Int) = n := by
  unfold natK
  rw [full_sz]
  show Int.toNat ((n : Int) % (szK k : Int)) = n
  rw [Int.emod_eq_of_lt (by omega) (by omega)]; rfl
theorem szK_pow (k : IntKind) : szK k = 2 ^ bitsK k := by cases k <;> rfl
theorem wrapF_nat {k : IntKind} {n : Nat} (hk : sgnK k = false) (h : n < szK k) : wrapF k (n : Int) = n := wrapU hk ⟨by omega, by rw [full_sz]; omega⟩
section
variable (P : Program) (t : TypeId) (x y : Operand)
theorem bin_xorN {k : IntKind} {n m : Nat} (hk : sgnK k = false) (hn : n < szK k) (hm : m < szK k) : evBin P .xor t x y (.int k (n : Int)) (.int k (m : Int)) = some (.int k ((n ^^^ m : Nat) : Int)) := by
  refine bin_int _ _ _ _ _ _ _ _ _ ?_ rfl
  show some (Value.int k (wrapF k (Int.ofNat (Nat.xor (natK k n) (natK k m))))) = _
  rw [natK_nat hn, natK_nat hm]
  show some (Value.int k (wrapF k ((n ^^^ m : Nat) : Int))) = _
  rw [wrapF_nat hk (by rw [szK_pow] at hn hm ⊢; exact Nat.xor_lt_two_pow hn hm)]
theorem bin_andN {k : IntKind} {n m : Nat} (hk : sgnK k = false) (hn : n < szK k) (hm : m < szK k) : evBin P .and t x y (.int k (n : Int)) (.int k (m : Int)) = some (.int k ((n &&& m : Nat) : Int)) := by
  refine bin_int _ _ _ _ _ _ _ _ _ ?_ rfl
  show some (Value.int k (wrapF k (Int.ofNat (Nat.land (natK k n) (natK k m))))) = _
  rw [natK_nat hn, natK_nat hm]
  show some (Value.int k (wrapF k ((n &&& m : Nat) : Int))) = _
  rw [wrapF_nat hk (Nat.lt_of_le_of_lt Nat.and_le_left hn)]
theorem bin_orN {k : IntKind} {n m : Nat} (hk : sgnK k = false) (hn : n < szK k) (hm : m < szK k) : evBin P .or t x y (.int k (n : Int)) (.int k (m : Int)) = some (.int k ((n ||| m : Nat) : Int)) := by
  refine bin_int _ _ _ _ _ _ _ _ _ ?_ rfl
  show some (Value.int k (wrapF k (Int.ofNat (Nat.lor (natK k n) (natK k m))))) = _
  rw [natK_nat hn, natK_nat hm]
  show some (Value.int k (wrapF k ((n ||| m : Nat) : Int))) = _
  rw [wrapF_nat hk (by rw [szK_pow] at hn hm ⊢; exact Nat.or_lt_two_pow hn hm)]
theorem bin_shrN {k j : IntKind} {n m : Nat} (hm : m ≤ bitsK k) : evBin P .shr t x y (.int k (n : Int)) (.int j (m : Int)) = some (.int k ((n >>> m : Nat) : Int)) := by
  unfold evBin fastBin fastI
  have h1 : shN k (m : Int) = m := by
    unfold shN
    show cnd (Nat.ble m (bitsK k)) m (bitsK k) = m
    rw [ble_nat hm, cnd_true]
  have : shF .shr k (n : Int) (m : Int) = some (.int k ((n >>> m : Nat) : Int)) := by
    show cnd (decide (0 ≤ (m : Int))) (shrF k (shN k m) (n : Int)) none = _
    rw [decide_eq_true (by omega), cnd_true, h1]
    rfl
  simp only [isSh, cnd_true]
  have e2 : fastI .shr k j (n : Int) (m : Int) = some (.int k ((n >>> m : Nat) : Int)) := by
    unfold fastI
    simp only [isSh, cnd_true, this]
  rw [this]
  rfl
end
section
variable (P : Program) (t : TypeId) (x y : Operand)
theorem bin_xorI {k : IntKind} {a b : Int} (hk : sgnK k = false) (ha : 0 ≤ a ∧ a < (szK k : Nat)) (hb : 0 ≤ b ∧ b < (szK k : Nat)) : evBin P .xor t x y (.int k a) (.int k b) = some (.int k ((a.toNat ^^^ b.toNat : Nat) : Int)) := by
  obtain ⟨n, rfl⟩ := Int.eq_ofNat_of_zero_le ha.1
  obtain ⟨m, rfl⟩ := Int.eq_ofNat_of_zero_le hb.1
  exact bin_xorN P t x y hk (by omega) (by omega)
theorem bin_andI {k : IntKind} {a b : Int} (hk : sgnK k = false) (ha : 0 ≤ a ∧ a < (szK k : Nat)) (hb : 0 ≤ b ∧ b < (szK k : Nat)) : evBin P .and t x y (.int k a) (.int k b) = some (.int k ((a.toNat &&& b.toNat : Nat) : Int)) := by
  obtain ⟨n, rfl⟩ := Int.eq_ofNat_of_zero_le ha.1
  obtain ⟨m, rfl⟩ := Int.eq_ofNat_of_zero_le hb.1
  exact bin_andN P t x y hk (by omega) (by omega)
theorem bin_orI {k : IntKind} {a b : Int} (hk : sgnK k = false) (ha : 0 ≤ a ∧ a < (szK k : Nat)) (hb : 0 ≤ b ∧ b < (szK k : Nat)) : evBin P .or t x y (.int k a) (.int k b) = some (.int k ((a.toNat ||| b.toNat : Nat) : Int)) := by
  obtain ⟨n, rfl⟩ := Int.eq_ofNat_of_zero_le ha.1
  obtain ⟨m, rfl⟩ := Int.eq_ofNat_of_zero_le hb.1
  exact bin_orN P t x y hk (by omega) (by omega)
theorem bin_shrI {k j : IntKind} {a b : Int} (ha : 0 ≤ a) (hb : 0 ≤ b ∧ b ≤ (bitsK k : Nat)) : evBin P .shr t x y (.int k a) (.int j b) = some (.int k ((a.toNat >>> b.toNat : Nat) : Int)) := by
  obtain ⟨n, rfl⟩ := Int.eq_ofNat_of_zero_le ha
  obtain ⟨m, rfl⟩ := Int.eq_ofNat_of_zero_le hb.1
  exact bin_shrN P t x y (by omega)
end
theorem UN_xorI {P : Program} {h : Heap} {k : IntKind} {a : Int} (hk : sgnK k = false) (ha : 0 ≤ a ∧ a < (szK k : Nat)) : UN P h .xor (.int k a) = some (.int k (((szK k - 1) ^^^ a.toNat : Nat) : Int), h) := by
  obtain ⟨n, rfl⟩ := Int.eq_ofNat_of_zero_le ha.1
  rw [UN_xor, hk, cnd_false]
  have e : (fullK k).sub 1 = ((szK k - 1 : Nat) : Int) := by cases k <;> rfl
  have hpos : szK k - 1 < szK k := by cases k <;> decide
  have hn : n < szK k := by omega
  rw [e, natK_nat hpos, natK_nat hn]
  show some (Value.int k (wrapF k (((szK k - 1) ^^^ n : Nat) : Int)), h) = _
  rw [wrapF_nat hk (by rw [szK_pow] at hn hpos ⊢; exact Nat.xor_lt_two_pow hpos hn)]
  rfl
/-- to the right, with a sign -/
theorem bin_shr64 (P : Program) (t : TypeId) (x y : Operand) {k j : IntKind} {a b : Int} (hb : 0 ≤ b ∧ b ≤ (bitsK k : Nat)) : evBin P .shr t x y (.int k a) (.int j b) = some (.int k (a / 2 ^ b.toNat)) := by
  obtain ⟨m, rfl⟩ := Int.eq_ofNat_of_zero_le hb.1
  rw [toNat_nat]
  cases a with
  | ofNat n =>
    have := bin_shrN P t x y (k := k) (j := j) (n := n) (m := m) (by omega)
    rw [show Int.ofNat n = (n : Int) from rfl, this, Nat.shiftRight_eq_div_pow]
    congr 2
  | negSucc n =>
    have h1 : absPure P (eqGuard .shr t x y (.int k (Int.negSucc n)) (.int j (m : Int)) >>= fun _ => binOp .shr t (.int k (Int.negSucc n)) (.int j (m : Int))) = some (.int k (Int.negSucc n / 2 ^ m)) := by
      rw [absPure_bind]
      show absPure P (Op.shift .shr k (Int.negSucc n) j (m : Int)) = _
      unfold Op.shift
      rw [if_neg (by omega)]
      have hm : min ((m : Int).toNat) k.bits = m := by
        have : k.bits = bitsK k := by cases k <;> rfl
        rw [this, toNat_nat]
        omega
      rw [hm]
      show some (Value.int k ((Int.negSucc n).fdiv (2 ^ m))) = _
      rw [Int.fdiv_eq_ediv_of_nonneg _ (Int.le_of_lt (Int.pow_pos (by decide)))]
    have h2 : fastBin .shr (.int k (Int.negSucc n)) (.int j (m : Int)) = none := by
      have e0 : fastBin .shr (.int k (Int.negSucc n)) (.int j (m : Int)) = shF .shr k (Int.negSucc n) (m : Int) := rfl
      rw [e0]
      show cnd (decide (0 ≤ (m : Int))) (shrF k (shN k m) (Int.negSucc n)) none = none
      cases decide (0 ≤ (m : Int)) <;> rfl
    unfold evBin
    rw [h2]
    show orE none (cnd true (match absPure P (eqGuard .shr t x y (.int k (Int.negSucc n)) (.int j (m : Int)) >>= fun _ => binOp .shr t (.int k (Int.negSucc n)) (.int j (m : Int))) with | some v => cnd (flat1 v) (some v) none | none => none) _) = _
    rw [h1]
    rfl
theorem bin_shl64 (P : Program) (t : TypeId) (x y : Operand) {k j : IntKind} {a b : Int} (hb : 0 ≤ b ∧ b ≤ (bitsK k : Nat)) : evBin P .shl t x y (.int k a) (.int j b) = some (.int k (wrapF k (a * 2 ^ b.toNat))) := by
  obtain ⟨m, rfl⟩ := Int.eq_ofNat_of_zero_le hb.1
  have h1 : shN k (m : Int) = m := by
    unfold shN
    show cnd (Nat.ble m (bitsK k)) m (bitsK k) = m
    rw [ble_nat (by omega), cnd_true]
  have h2 : fastBin .shl (.int k a) (.int j (m : Int)) = some (.int k (wrapF k (a * 2 ^ m))) := by
    have e0 : fastBin .shl (.int k a) (.int j (m : Int)) = shF .shl k a (m : Int) := rfl
    rw [e0]
    show cnd (decide (0 ≤ (m : Int))) (some (Value.int k (wrapF k (Int.mul a (Int.ofNat (Nat.pow 2 (shN k m))))))) none = _
    rw [decide_eq_true (by omega), cnd_true, h1]
    congr 3
  unfold evBin
  rw [h2, toNat_nat]
  rfl
/-! alike nothing? -/
section
variable {P : Program} {t : TypeId} (x y : Operand)
theorem eq_go (op : BinOp) (a b : Value) (hf : fastBin op a b = none) (hn : (flat a && flat b) = false) (r : Bool) (he : eqA P t a b = some r) : evBin P .eql t x y a b = some (.bool r) ∧ evBin P .neq t x y a b = some (.bool (!r)) := by
  have h1 : ∀ op, fastBin op a b = none := fun op => by
    unfold fastBin at hf ⊢
    cases a <;> first | rfl | (cases b <;> first | rfl | (simp [flat, flat1] at hn))
  unfold evBin
  rw [h1, h1, hn, cnd_false, cnd_false, he]
  exact ⟨rfl, rfl⟩
theorem eq_nilS (hu : isSl P t = true) (a : Option Addr) (n c m d : Nat) : evBin P .eql t x y (.slice a n c) (.slice none m d) = some (.bool a.isNone) ∧ evBin P .neq t x y (.slice a n c) (.slice none m d) = some (.bool (!a.isNone)) := by
  refine eq_go x y .eql _ _ rfl rfl _ ?_
  unfold isSl at hu
  unfold eqA
  split at hu
  · rename_i e; rw [e]; cases a <;> rfl
  · cases hu
theorem eql_nilS (hu : isSl P t = true) (a : Option Addr) (n c m d : Nat) : evBin P .eql t x y (.slice a n c) (.slice none m d) = some (.bool a.isNone) := (eq_nilS x y hu a n c m d).1
theorem neq_nilS (hu : isSl P t = true) (a : Option Addr) (n c m d : Nat) : evBin P .neq t x y (.slice a n c) (.slice none m d) = some (.bool (!a.isNone)) := (eq_nilS x y hu a n c m d).2
theorem eq_nilP (hu : isPt P t = true) (a : Option Addr) : evBin P .eql t x y (.pointer a) (.pointer none) = some (.bool a.isNone) ∧ evBin P .neq t x y (.pointer a) (.pointer none) = some (.bool (!a.isNone)) := by
  refine eq_go x y .eql _ _ rfl rfl _ ?_
  unfold isPt at hu
  unfold eqA
  split at hu
  · rename_i e; rw [e]; cases a <;> rfl
  · cases hu
theorem eql_nilP (hu : isPt P t = true) (a : Option Addr) : evBin P .eql t x y (.pointer a) (.pointer none) = some (.bool a.isNone) := (eq_nilP x y hu a).1
theorem neq_nilP (hu : isPt P t = true) (a : Option Addr) : evBin P .neq t x y (.pointer a) (.pointer none) = some (.bool (!a.isNone)) := (eq_nilP x y hu a).2
end
theorem bool_equal {P : Program} {t : TypeId} (hu : P.underlying t = some .bool) (a b : Bool) : absPure P (Op.equal t (.bool a) (.bool b)) = some (a == b) := by
  have h1 : absPure P (underlying t) = P.underlying t := by
    unfold underlying
    show absPure P (match P.underlying t with | some d => _ | none => _) = _
    rw [hu]
    rfl
  unfold Op.equal
  rw [show Op.maxDepth = 9999 + 1 from rfl]
  unfold Op.equalIn
  rw [absPure_bind, h1, hu, ob_some]
  rfl
theorem bool_eql (P : Program) (t : TypeId) (x y : Operand) (a b : Bool) (hu : P.underlying t = some .bool) : evBin P .eql t x y (.bool a) (.bool b) = some (.bool (a == b)) := by
  unfold evBin
  have : absPure P (eqGuard .eql t x y (.bool a) (.bool b) >>= fun _ => binOp .eql t (.bool a) (.bool b)) = some (.bool (a == b)) := by
    rw [absPure_bind, show absPure P (eqGuard .eql t x y (.bool a) (.bool b)) = some () from rfl, ob_some]
    show absPure P (Op.equal t (.bool a) (.bool b) >>= fun b => pure (Value.bool b)) = _
    rw [absPure_bind, bool_equal hu]
    rfl
  show orE none (cnd true (match absPure P (eqGuard .eql t x y (.bool a) (.bool b) >>= fun _ => binOp .eql t (.bool a) (.bool b)) with | some v => cnd (flat1 v) (some v) none | none => none) _) = _
  rw [this]
  rfl
theorem bool_neq (P : Program) (t : TypeId) (x y : Operand) (a b : Bool) (hu : P.underlying t = some .bool) : evBin P .neq t x y (.bool a) (.bool b) = some (.bool (a != b)) := by
  unfold evBin
  have : absPure P (eqGuard .neq t x y (.bool a) (.bool b) >>= fun _ => binOp .neq t (.bool a) (.bool b)) = some (.bool (a != b)) := by
    rw [absPure_bind, show absPure P (eqGuard .neq t x y (.bool a) (.bool b)) = some () from rfl, ob_some]
    show absPure P (Op.equal t (.bool a) (.bool b) >>= fun b => pure (Value.bool !b)) = _
    rw [absPure_bind, bool_equal hu]
    rfl
  show orE none (cnd true (match absPure P (eqGuard .neq t x y (.bool a) (.bool b) >>= fun _ => binOp .neq t (.bool a) (.bool b)) with | some v => cnd (flat1 v) (some v) none | none => none) _) = _
  rw [this]
  rfl
theorem isNone_n {α : Type} : (none : Option α).isNone = true := (rfl)
theorem isNone_s {α : Type} (a : α) : (some a).isNone = false := (rfl)
theorem szK_u8 : szK .u8 = 256 := (rfl)
theorem szK_u16 : szK .u16 = 65536 := (rfl)
theorem szK_u32 : szK .u32 = 4294967296 := (rfl)
theorem szK_u64 : szK .u64 = 18446744073709551616 := (rfl)
theorem bitsK_u8 : bitsK .u8 = 8 := (rfl)
theorem bitsK_u16 : bitsK .u16 = 16 := (rfl)
theorem bitsK_u32 : bitsK .u32 = 32 := (rfl)
theorem bitsK_u64 : bitsK .u64 = 64 := (rfl)
theorem bitsK_i64 : bitsK .i64 = 64 := (rfl)
attribute [go_sem] szK_u8 szK_u16 szK_u32 szK_u64 bitsK_u8 bitsK_u16 bitsK_u32 bitsK_u64 bitsK_i64 wrapF_nat bin_xorI bin_andI bin_orI bin_shrI UN_xorI eql_nilS neq_nilS eql_nilP neq_nilP isNone_n isNone_s zeroRow_z zeroRow_s str_eql str_neq bool_eql bool_neq ldV_eq
attribute [go_sem low] wrap64 inB_int
/-- a constant, as a natural number -/
theorem cst_nat (k : IntKind) (n : Nat) : Value.int k (OfNat.ofNat (n + 2)) = .int k ((n + 2 : Nat) : Int) := (rfl)
end Go.Proofs.YtddgcakiceodgaaGreat.EV
