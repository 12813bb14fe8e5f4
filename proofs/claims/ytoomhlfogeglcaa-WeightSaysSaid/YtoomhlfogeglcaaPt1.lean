/- Contracts: weight: Parts. No condition. -/
import Derived.Test.YtoomhlfogeglcaaSt6
namespace Go.Proofs.Ytoomhlfogeglcaa.EV
open Go Go.Proofs
set_option linter.unusedVariables false
set_option linter.unusedSimpArgs false
set_option maxRecDepth 100000
set_option pp.deepTerms false
set_option pp.deepTerms.threshold 20
theorem blk_eq {b o m c i : Nat} (h : blkOf (.slice (some ⟨b, o, none⟩) m c) i) : i = b := Eq.symm (show b = i from h)
theorem zrow_i64 (n : Nat) : zeroRow [.int .i64 0] n = (List.replicate n (0 : Int)).flatMap (intE .i64) := by
  induction n with
  | zero => rw [zeroRow_z]; rfl
  | succ n ih => rw [zeroRow_s, ih, List.replicate_succ, List.flatMap_cons]; rfl
/-- too many: none -/
theorem total_big (l : List Int) (s : Value) (h : Heap) (hs : SL (intE .i64) 1 h s l) (hl : 64 < l.length) :
    EF Try.prog O0 12 [s] h = some (.tuple ⟨[.int .i64 0, .bool false]⟩, h) := by
  have : WPo (EF Try.prog O0 12 [s] h) fun q => q = (.tuple ⟨[.int .i64 0, .bool false]⟩, h) := by
    rw [EF_body (O := O0) (by kernel_rfl) Try.func12 rfl (rs := [.tmp 2, .tmp 3]) rfl (bad := []) (by kernel_rfl) _ _ (m := 26) rfl]
    obtain ⟨a, c, hv⟩ := hs.val
    subst hv
    simp (maxSteps := 1000000) (disch := first | decide | omega | (simp only [go_sem]; first | done | omega)) only [go_sem, Int.reduceToNat, Nat.reduceMul, Nat.reduceAdd, Nat.reduceSub, ↓EU_region, ↓EU_draw]
    repeat refine WPo_ob ?_
    refine (LP_rule (fun m st => ∃ (tm : Fr), st = ⟨tm, h, []⟩ ∧ m = 0 ∧ Fr.get tm 0 = .slice a l.length c ∧ Fr.get tm 7 = .slice a l.length c ∧ Fr.get tm 8 = .int .i64 l.length ∧ Fr.get tm 9 = .int .i64 0)
      (fun q => ∃ tm, q.2 = ⟨tm, h, []⟩ ∧ q.1 = .ret ∧ Fr.get tm 2 = .int .i64 0 ∧ Fr.get tm 3 = .bool false) ?_ 0 _ _ ?_ ?_).mono ?_
    · rintro m _ ⟨tm, rfl, rfl, g0, g7, g8, g9⟩
      have d0 : decide ((0 : Int) < (l.length : Int)) = true := decide_eq_true (by omega)
      obtain ⟨x, hx⟩ : ∃ x, l[0]? = some x := ⟨_, List.getElem?_eq_getElem (by omega)⟩
      obtain ⟨b, o, c', e, hb', hrd, hr⟩ := hs.at hx rfl
      cases e
      have hr0 := hr 0 _ rfl
      simp only [Nat.zero_mul, Nat.add_zero] at hr0
      have h0l : 0 < l.length := by omega
      have hd : decide (64 < (l.length : Int)) = true := decide_eq_true (by omega)
      cases hg : wgood x with
      | false =>
        simp (maxSteps := 1000000) (disch := first | decide | omega | (simp only [go_sem]; first | done | omega)) only [go_sem, Int.reduceToNat, Nat.reduceMul, Nat.reduceAdd, Nat.reduceSub, ↓EU_region, ↓EU_draw, g0, g7, g8, g9, d0, hr0, wGood_ev, hg]
        exact ⟨_, rfl, trivial, by simp (maxSteps := 1000000) (disch := first | decide | omega | (simp only [go_sem]; first | done | omega)) only [go_sem, Int.reduceToNat, Nat.reduceMul, Nat.reduceAdd, Nat.reduceSub, ↓EU_region, ↓EU_draw], by simp (maxSteps := 1000000) (disch := first | decide | omega | (simp only [go_sem]; first | done | omega)) only [go_sem, Int.reduceToNat, Nat.reduceMul, Nat.reduceAdd, Nat.reduceSub, ↓EU_region, ↓EU_draw]⟩
      | true =>
        simp (maxSteps := 1000000) (disch := first | decide | omega | (simp only [go_sem]; first | done | omega)) only [go_sem, Int.reduceToNat, Nat.reduceMul, Nat.reduceAdd, Nat.reduceSub, ↓EU_region, ↓EU_draw, g0, g7, g8, g9, d0, hr0, wGood_ev, hg, hd]
        exact ⟨_, rfl, trivial, by simp (maxSteps := 1000000) (disch := first | decide | omega | (simp only [go_sem]; first | done | omega)) only [go_sem, Int.reduceToNat, Nat.reduceMul, Nat.reduceAdd, Nat.reduceSub, ↓EU_region, ↓EU_draw], by simp (maxSteps := 1000000) (disch := first | decide | omega | (simp only [go_sem]; first | done | omega)) only [go_sem, Int.reduceToNat, Nat.reduceMul, Nat.reduceAdd, Nat.reduceSub, ↓EU_region, ↓EU_draw]⟩
    · exact ⟨_, rfl, rfl, by simp (maxSteps := 1000000) (disch := first | decide | omega | (simp only [go_sem]; first | done | omega)) only [go_sem, Int.reduceToNat, Nat.reduceMul, Nat.reduceAdd, Nat.reduceSub, ↓EU_region, ↓EU_draw], by simp (maxSteps := 1000000) (disch := first | decide | omega | (simp only [go_sem]; first | done | omega)) only [go_sem, Int.reduceToNat, Nat.reduceMul, Nat.reduceAdd, Nat.reduceSub, ↓EU_region, ↓EU_draw], by simp (maxSteps := 1000000) (disch := first | decide | omega | (simp only [go_sem]; first | done | omega)) only [go_sem, Int.reduceToNat, Nat.reduceMul, Nat.reduceAdd, Nat.reduceSub, ↓EU_region, ↓EU_draw], by simp (maxSteps := 1000000) (disch := first | decide | omega | (simp only [go_sem]; first | done | omega)) only [go_sem, Int.reduceToNat, Nat.reduceMul, Nat.reduceAdd, Nat.reduceSub, ↓EU_region, ↓EU_draw]⟩
    · omega
    · rintro ⟨q, _⟩ ⟨tm, rfl, rfl, g2, g3⟩
      simp (maxSteps := 1000000) (disch := first | decide | omega | (simp only [go_sem]; first | done | omega)) only [go_sem, Int.reduceToNat, Nat.reduceMul, Nat.reduceAdd, Nat.reduceSub, ↓EU_region, ↓EU_draw, g2, g3]
  obtain ⟨q, e, rfl⟩ := this
  exact e
theorem total_all (l : List Int) (s : Value) (h : Heap) (hs : SL (intE .i64) 1 h s l) : EF Try.prog O0 12 [s] h = some (.tuple ⟨[.int .i64 (tot l).1, .bool (tot l).2]⟩, h) := by
  by_cases q : l.length ≤ 64
  · exact total_ev l s h hs (by omega)
  · have : tot l = (0, false) := by
      unfold tot
      rw [if_neg]
      simp [q]
    rw [this]
    exact total_big l s h hs (by omega)
noncomputable def shL (l : List Int) (n : Int) : List Int := l.map fun w => shareR w (sumI l) n
noncomputable def ofL (l : List Int) (n : Int) : List Int := l.map fun w => offR w (sumI l) n (shareR w (sumI l) n)
noncomputable def idxL (k : Nat) : List Int := (List.range k).map Int.ofNat
/-- the first i are done -/
noncomputable def prg (L : List Int) (k i : Nat) : List Int := L.take i ++ List.replicate (k - i) 0
theorem prg_len {L : List Int} {k i : Nat} (h : L.length = k) (hi : i ≤ k) : (prg L k i).length = k := by
  unfold prg
  rw [List.length_append, List.length_take, List.length_replicate]
  omega
theorem prg_set {L : List Int} {k i : Nat} {x : Int} (h : L.length = k) (hx : L[i]? = some x) : (prg L k i).set i x = prg L k (i + 1) := by
  have hi := (List.getElem?_eq_some_iff.1 hx).1
  unfold prg
  have e1 : L.take (i + 1) = L.take i ++ [x] := by rw [List.take_add_one, hx]; rfl
  have e2 : (L.take i).length = i := by rw [List.length_take]; omega
  have e3 : k - i = (k - (i + 1)) + 1 := by omega
  rw [e1, e3, List.replicate_succ, List.append_assoc, List.set_append_right _ _ (by omega), e2, Nat.sub_self]
  rfl
theorem prg_get {L : List Int} {k i j : Nat} (h : j < i) (hi : i ≤ L.length) : (prg L k i)[j]? = L[j]? := by
  unfold prg
  rw [List.getElem?_append_left (by rw [List.length_take]; omega), List.getElem?_take_of_lt h]
theorem prg_all {L : List Int} {k : Nat} (h : L.length = k) : prg L k k = L := by
  unfold prg
  rw [← h, List.take_length, Nat.sub_self, List.replicate_zero, List.append_nil]
theorem idxL_len (k : Nat) : (idxL k).length = k := by unfold idxL; rw [List.length_map, List.length_range]
theorem idxL_get {k i : Nat} (h : i < k) : (idxL k)[i]? = some (i : Int) := by
  unfold idxL
  rw [List.getElem?_map, List.getElem?_range h]
  rfl
theorem parts1_ev {h : Heap} {A : Nat} {v : Value} {L : List Int} (g : h.get A = .cells [v] 0) (hs : SL (intE .i64) 1 h v L) {x y : Nat} (hx : x < L.length) (hy : y < L.length) :
    EF Try.prog O0 26 [.int .i64 (x : Int), .int .i64 (y : Int), ptr A 0] h = some (.int .i64 (cmpI (L.getD x 0) (L.getD y 0)), h) := by
  have : WPo (EF Try.prog O0 26 [.int .i64 (x : Int), .int .i64 (y : Int), ptr A 0] h) fun q => q = (.int .i64 (cmpI (L.getD x 0) (L.getD y 0)), h) := by
    rw [EF_body (O := O0) (by kernel_rfl) Try.func26 rfl (rs := [.tmp 5]) rfl (bad := []) (by kernel_rfl) _ _ (m := 15) rfl]
    obtain ⟨u, hu⟩ : ∃ u, L[x]? = some u := ⟨_, List.getElem?_eq_getElem hx⟩
    obtain ⟨w, hw⟩ : ∃ u, L[y]? = some u := ⟨_, List.getElem?_eq_getElem hy⟩
    obtain ⟨b, o, c, e, _, _, r1⟩ := hs.at hu rfl
    obtain ⟨b', o', c', e', _, _, r2⟩ := hs.at hw rfl
    rw [e] at e'
    cases e'
    have r1 := r1 0 _ rfl
    have r2 := r2 0 _ rfl
    rw [Nat.add_zero] at r1 r2
    have e1 : L.getD x 0 = u := by rw [List.getD_eq_getElem?_getD, hu]; rfl
    have e2 : L.getD y 0 = w := by rw [List.getD_eq_getElem?_getD, hw]; rfl
    rw [e1, e2]
    rw [e] at g
    simp (maxSteps := 1000000) (disch := first | decide | omega | (simp only [go_sem]; first | done | omega)) only [go_sem, Int.reduceToNat, Nat.reduceMul, Nat.reduceAdd, Nat.reduceSub, ↓EU_region, ↓EU_draw, g, r1, r2, cmp64_ev]
  obtain ⟨q, e, rfl⟩ := this
  exact e
set_option maxHeartbeats 4000000 in
theorem parts_no (l : List Int) (s : Value) (n : Int) (h : Heap) (hs : SL (intE .i64) 1 h s l) (hno : (tot l).2 = false ∨ n < 0 ∨ n > 1099511627776) :
    EF Try.prog O0 15 [s, .int .i64 n] h = some (.slice none 0 1, h) := by
  have : WPo (EF Try.prog O0 15 [s, .int .i64 n] h) fun q => q = (.slice none 0 1, h) := by
    rw [EF_body (O := O0) (by kernel_rfl) Try.func15 rfl (rs := [.tmp 4]) rfl (bad := [12]) (by kernel_rfl) _ _ (m := 97) rfl]
    obtain ⟨a, c, hv⟩ := hs.val
    have ht := total_all l s h hs
    subst hv
    cases h2 : (tot l).2 with
    | false =>
      simp (maxSteps := 1000000) (disch := first | decide | omega | (simp only [go_sem]; first | done | omega)) only [go_sem, Int.reduceToNat, Nat.reduceMul, Nat.reduceAdd, Nat.reduceSub, ↓EU_region, ↓EU_draw, ht, h2]
    | true =>
      by_cases h3 : n < 0
      · have d1 : decide (n < 0) = true := decide_eq_true h3
        simp (maxSteps := 1000000) (disch := first | decide | omega | (simp only [go_sem]; first | done | omega)) only [go_sem, Int.reduceToNat, Nat.reduceMul, Nat.reduceAdd, Nat.reduceSub, ↓EU_region, ↓EU_draw, ht, h2, d1]
      · have d1 : decide (n < 0) = false := decide_eq_false h3
        have h4 : n > 1099511627776 := by
          rcases hno with e | e | e
          · rw [h2] at e; cases e
          · exact absurd e h3
          · exact e
        have d2 : decide (n > 1099511627776) = true := decide_eq_true h4
        simp (maxSteps := 1000000) (disch := first | decide | omega | (simp only [go_sem]; first | done | omega)) only [go_sem, Int.reduceToNat, Nat.reduceMul, Nat.reduceAdd, Nat.reduceSub, ↓EU_region, ↓EU_draw, ht, h2, d1, d2]
  obtain ⟨q, e, rfl⟩ := this
  exact e
theorem sumI_snoc (l : List Int) (x : Int) : sumI (l ++ [x]) = sumI l + x := by
  rw [sumI_app]
  show sumI l + (0 + x) = _
  omega
theorem sumI_bd : ∀ (l : List Int), (∀ x ∈ l, 0 ≤ x ∧ x ≤ 1099511627776) → 0 ≤ sumI l ∧ sumI l ≤ (l.length : Int) * 1099511627776
  | [], _ => ⟨Int.le_refl _, by decide⟩
  | x :: l, h => by
    have h1 := h x List.mem_cons_self
    have ih := sumI_bd l fun y hy => h y (List.mem_cons_of_mem _ hy)
    have e : sumI (x :: l) = x + sumI l := by
      show (x :: l).foldl (· + ·) 0 = _
      rw [List.foldl_cons, foldl_add]; omega
    rw [e, List.length_cons]
    omega
theorem sumI_mem : ∀ {l : List Int} {w : Int}, (∀ x ∈ l, 1 ≤ x) → w ∈ l → w ≤ sumI l
  | x :: l, w, h, hw => by
    have e : sumI (x :: l) = x + sumI l := by
      show (x :: l).foldl (· + ·) 0 = _
      rw [List.foldl_cons, foldl_add]; omega
    have hx := h x List.mem_cons_self
    have h' : ∀ y ∈ l, 1 ≤ y := fun y hy => h y (List.mem_cons_of_mem _ hy)
    have hp : 0 ≤ sumI l := by
      cases l with
      | nil => exact Int.le_refl _
      | cons z t => have := sumI_mem h' (List.mem_cons_self (a := z)); have := h' z List.mem_cons_self; omega
    rw [e]
    rcases List.mem_cons.1 hw with rfl | q
    · omega
    · have := sumI_mem h' q; omega
theorem sumI_cons (x : Int) (l : List Int) : sumI (x :: l) = x + sumI l := by
  show (x :: l).foldl (· + ·) 0 = _
  rw [List.foldl_cons, foldl_add]; omega
theorem sumI_set : ∀ (l : List Int) (i : Nat) (v x : Int), l[i]? = some v → sumI (l.set i x) = sumI l + (x - v)
  | [], i, v, x, h => by simp at h
  | y :: l, 0, v, x, h => by
    have : y = v := by simpa using h
    subst this
    rw [List.set_cons_zero, sumI_cons, sumI_cons]; omega
  | y :: l, i + 1, v, x, h => by
    have h' : l[i]? = some v := by simpa using h
    rw [List.set_cons_succ, sumI_cons, sumI_cons, sumI_set l i v x h']; omega
theorem sumI_div {n t : Int} (ht : 0 < t) : ∀ (L : List Int), t * sumI (L.map fun w => n * w / t) + sumI (L.map fun w => n * w % t) = n * sumI L ∧ 0 ≤ sumI (L.map fun w => n * w % t) ∧ sumI (L.map fun w => n * w % t) ≤ (L.length : Int) * (t - 1)
  | [] => by
    show t * 0 + 0 = n * 0 ∧ (0 : Int) ≤ 0 ∧ (0 : Int) ≤ 0 * (t - 1)
    rw [Int.mul_zero, Int.mul_zero, Int.zero_mul]; omega
  | w :: L => by
    obtain ⟨h1, h2, h3⟩ := sumI_div (n := n) ht L
    have e1 := Int.mul_ediv_add_emod (n * w) t
    have r1 : 0 ≤ n * w % t := Int.emod_nonneg _ (by omega)
    have r2 : n * w % t < t := Int.emod_lt_of_pos _ ht
    rw [List.map_cons, List.map_cons, sumI_cons, sumI_cons, sumI_cons, Int.mul_add, Int.mul_add, List.length_cons]
    have e2 : ((L.length + 1 : Nat) : Int) * (t - 1) = (L.length : Int) * (t - 1) + (t - 1) := by
      rw [Int.natCast_add, Int.add_mul]; omega
    rw [e2]
    omega
theorem left_bd {l : List Int} {n : Int} (hmay : ∀ w ∈ l, wmay w (sumI l) n = true) (ht : 0 < sumI l) (hn : 0 ≤ n ∧ n ≤ 1099511627776) : 0 ≤ n - sumI (shL l n) ∧ n - sumI (shL l n) ≤ l.length := by
  have e0 : shL l n = l.map fun w => n * w / sumI l := List.map_congr_left fun w hw => by
    unfold shareR
    rw [hmay w hw, if_pos rfl]
  obtain ⟨h1, h2, h3⟩ := sumI_div (n := n) ht l
  rw [e0]
  generalize sumI (l.map fun w => n * w / sumI l) = S at *
  generalize sumI (l.map fun w => n * w % sumI l) = R at *
  generalize sumI l = t at *
  have e1 : t * (n - S) = R := by
    rw [Int.mul_sub, Int.mul_comm t n]; omega
  constructor
  · by_cases q : n - S < 0
    · have := Int.mul_le_mul_of_nonneg_left (show n - S ≤ -1 by omega) (Int.le_of_lt ht)
      omega
    · omega
  · by_cases q : (l.length : Int) < n - S
    · have := Int.mul_le_mul_of_nonneg_left (show (l.length : Int) + 1 ≤ n - S by omega) (Int.le_of_lt ht)
      rw [Int.mul_add, Int.mul_comm t (l.length : Int)] at this
      have e3 : (l.length : Int) * (t - 1) = (l.length : Int) * t - l.length := by rw [Int.mul_sub]; omega
      omega
    · omega
theorem idxL_asc (k : Nat) : AscOn (idxL k) 0 k := fun i j x y h1 h2 h3 hx hy => by
  rw [idxL_get (by omega)] at hx hy
  cases hx; cases hy
  omega
theorem idxL_nodup (k : Nat) : (idxL k).Nodup := by
  rw [List.Nodup, List.pairwise_iff_getElem]
  intro i j hi hj hij e
  have h1 := List.getElem?_eq_getElem hi
  have h2 := List.getElem?_eq_getElem hj
  rw [idxL_len] at hi hj
  rw [idxL_get hi] at h1
  rw [idxL_get hj] at h2
  rw [← e] at h2
  have := Option.some.inj (h1.trans h2.symm)
  omega
theorem idxL_mem {k : Nat} {x : Int} (h : x ∈ idxL k) : ∃ u : Nat, u < k ∧ x = (u : Int) := by
  obtain ⟨i, hi⟩ := List.getElem?_of_mem h
  have hl := (List.getElem?_eq_some_iff.1 hi).1
  rw [idxL_len] at hl
  rw [idxL_get hl] at hi
  exact ⟨i, hl, (Option.some.inj hi).symm⟩
set_option maxHeartbeats 16000000 in
theorem parts_yes (l : List Int) (s : Value) (n : Int) (h : Heap) (hs : SL (intE .i64) 1 h s l) (hok : tot l = (sumI l, true)) (hl : l.length ≤ 64) (hg : l.all wgood = true) (hn : 0 ≤ n ∧ n ≤ 1099511627776) :
    WPo (EF Try.prog O0 15 [s, .int .i64 n] h) fun q => ∃ (O Q : List Int) (left : Nat), (left : Int) = n - sumI (shL l n) ∧ O.Perm (idxL l.length) ∧ SrtOn (fun x => (ofL l n).getD x.toNat 0) O 0 l.length ∧ Q.length = l.length ∧ (∀ (i : Nat) (v : Int), (shL l n)[i]? = some v → Q[i]? = some (v + if (i : Int) ∈ O.take left then 1 else 0)) ∧ sumI Q = sumI (shL l n) + (min l.length left : Nat) ∧ OW (intE .i64) 1 q.2 q.1 Q ∧ Fresh h.next q.1 ∧ Ext h q.2 := by
  rw [EF_body (O := O0) (by kernel_rfl) Try.func15 rfl (rs := [.tmp 4]) rfl (bad := [12]) (by kernel_rfl) _ _ (m := 97) rfl]
  obtain ⟨a, c, hv⟩ := hs.val
  have ht := total_all l s h hs
  rw [hok] at ht
  subst hv
  have d1 : decide (n < 0) = false := decide_eq_false (by omega)
  have d2 : decide (n > 1099511627776) = false := decide_eq_false (by omega)
  have d3 : decide (0 ≤ (l.length : Int)) = true := decide_eq_true (by omega)
  have hgd := sumI_good hg
  have hgw : ∀ w ∈ l, 1 ≤ w ∧ w ≤ 20 := fun w hw => wgood_facts (List.all_eq_true.1 hg w hw)
  have hmay : ∀ w ∈ l, wmay w (sumI l) n = true := fun w hw => wmay_of ⟨(hgw w hw).1, (hgw w hw).2, sumI_mem (fun x hx => (hgw x hx).1) hw, by omega, hn.1⟩
  have hsh : ∀ w ∈ l, 0 ≤ shareR w (sumI l) n ∧ shareR w (sumI l) n ≤ n := fun w hw => by
    have h1 := hmay w hw
    have h2 := mdR_may h1 (by omega)
    unfold shareR
    rw [h1, if_pos rfl]
    exact h2.2
  have hbd : ∀ x ∈ shL l n, 0 ≤ x ∧ x ≤ 1099511627776 := fun x hx => by
    unfold shL at hx
    obtain ⟨u, hu, rfl⟩ := List.mem_map.1 hx
    have := hsh u hu
    omega
  have lsh : (shL l n).length = l.length := List.length_map ..
  have lof : (ofL l n).length = l.length := List.length_map ..
  have lid := idxL_len l.length
  obtain ⟨h1, hh1⟩ : ∃ h1, h1 = ((((h.push (.cells (zeroRow [.int .i64 0] l.length) 1)).push (.cells (zeroRow [.int .i64 0] l.length) 1)).push (.cells [.slice none 0 1] 0)).set (h.next + 1 + 1) (.cells [.slice (some ⟨h.next + 1, 0, none⟩) l.length (2 * l.length + 1)] 0)).push (.cells (zeroRow [.int .i64 0] l.length) 1) := ⟨_, rfl⟩
  have n1 : h1.next = h.next + 4 := by rw [hh1]; simp (maxSteps := 1000000) (disch := first | decide | omega | (simp only [go_sem]; first | done | omega)) only [go_sem, Int.reduceToNat, Nat.reduceMul, Nat.reduceAdd, Nat.reduceSub, ↓EU_region, ↓EU_draw]
  have b0 : h1.get h.next = .cells ((List.replicate l.length (0 : Int)).flatMap (intE .i64)) 1 := by rw [← zrow_i64, hh1]; simp (maxSteps := 1000000) (disch := first | decide | omega | (simp only [go_sem]; first | done | omega)) only [go_sem, Int.reduceToNat, Nat.reduceMul, Nat.reduceAdd, Nat.reduceSub, ↓EU_region, ↓EU_draw]
  have b1 : h1.get (h.next + 1) = .cells ((List.replicate l.length (0 : Int)).flatMap (intE .i64)) 1 := by rw [← zrow_i64, hh1]; simp (maxSteps := 1000000) (disch := first | decide | omega | (simp only [go_sem]; first | done | omega)) only [go_sem, Int.reduceToNat, Nat.reduceMul, Nat.reduceAdd, Nat.reduceSub, ↓EU_region, ↓EU_draw]
  have b2 : h1.get (h.next + 2) = .cells [.slice (some ⟨h.next + 1, 0, none⟩) l.length (2 * l.length + 1)] 0 := by rw [hh1]; simp (maxSteps := 1000000) (disch := first | decide | omega | (simp only [go_sem]; first | done | omega)) only [go_sem, Int.reduceToNat, Nat.reduceMul, Nat.reduceAdd, Nat.reduceSub, ↓EU_region, ↓EU_draw]
  have b3 : h1.get (h.next + 3) = .cells ((List.replicate l.length (0 : Int)).flatMap (intE .i64)) 1 := by rw [← zrow_i64, hh1]; simp (maxSteps := 1000000) (disch := first | decide | omega | (simp only [go_sem]; first | done | omega)) only [go_sem, Int.reduceToNat, Nat.reduceMul, Nat.reduceAdd, Nat.reduceSub, ↓EU_region, ↓EU_draw]
  have x1 : Ext h h1 := by rw [hh1]; repeat (first | exact Ext.refl _ | assumption | refine Ext.push ?_ _ | refine Ext.set ?_ _ _ (by first | omega | (simp only [next_push, next_set]; omega)))
  have lrp : (List.replicate l.length (0 : Int)).length = l.length := List.length_replicate
  have o1 : OW (intE .i64) 1 h1 (.slice (some ⟨h.next, 0, none⟩) l.length (2 * l.length + 1)) (prg (shL l n) l.length 0) := by
    show OW _ _ _ _ (List.replicate l.length 0)
    exact OW.new i64_len (by omega) b0 lrp.symm (by rw [lrp]; omega)
  have o2 : OW (intE .i64) 1 h1 (.slice (some ⟨h.next + 1, 0, none⟩) l.length (2 * l.length + 1)) (prg (ofL l n) l.length 0) := by
    show OW _ _ _ _ (List.replicate l.length 0)
    exact OW.new i64_len (by omega) b1 lrp.symm (by rw [lrp]; omega)
  have o3 : OW (intE .i64) 1 h1 (.slice (some ⟨h.next + 3, 0, none⟩) l.length (2 * l.length + 1)) (prg (idxL l.length) l.length 0) := by
    show OW _ _ _ _ (List.replicate l.length 0)
    exact OW.new i64_len (by omega) b3 lrp.symm (by rw [lrp]; omega)
  simp (maxSteps := 1000000) (disch := first | decide | omega | (simp only [go_sem]; first | done | omega)) only [go_sem, Int.reduceToNat, Nat.reduceMul, Nat.reduceAdd, Nat.reduceSub, ↓EU_region, ↓EU_draw, dec_t, dec_f, ht, d1, d2, d3]
  rw [← hh1]
  clear hh1 b0 b1 b3
  repeat refine WPo_ob ?_
  refine (LP_rule (fun m st => ∃ (i : Nat) (tm : Fr) (h' : Heap), st = ⟨tm, h', []⟩ ∧ m = l.length - i ∧ i ≤ l.length ∧ Fr.get tm 1 = .int .i64 n ∧ Fr.get tm 5 = .int .i64 (sumI l) ∧ Fr.get tm 7 = .slice (some ⟨h.next, 0, none⟩) l.length (2 * l.length + 1) ∧ Fr.get tm 8 = ptr (h.next + 2) 0 ∧ Fr.get tm 9 = .slice (some ⟨h.next + 3, 0, none⟩) l.length (2 * l.length + 1) ∧ Fr.get tm 10 = .int .i64 (n - sumI ((shL l n).take i)) ∧ Fr.get tm 40 = .slice a l.length c ∧ Fr.get tm 41 = .int .i64 (l.length : Int) ∧ Fr.get tm 42 = .int .i64 (i : Int) ∧ OW (intE .i64) 1 h' (.slice (some ⟨h.next, 0, none⟩) l.length (2 * l.length + 1)) (prg (shL l n) l.length i) ∧ OW (intE .i64) 1 h' (.slice (some ⟨h.next + 1, 0, none⟩) l.length (2 * l.length + 1)) (prg (ofL l n) l.length i) ∧ OW (intE .i64) 1 h' (.slice (some ⟨h.next + 3, 0, none⟩) l.length (2 * l.length + 1)) (prg (idxL l.length) l.length i) ∧ h'.get (h.next + 2) = .cells [.slice (some ⟨h.next + 1, 0, none⟩) l.length (2 * l.length + 1)] 0 ∧ h'.next = h.next + 4 ∧ Ext h h')
    (fun q => ∃ (tm : Fr) (h' : Heap), q.2 = ⟨tm, h', []⟩ ∧ q.1 = .exit 0 ∧ Fr.get tm 7 = .slice (some ⟨h.next, 0, none⟩) l.length (2 * l.length + 1) ∧ Fr.get tm 8 = ptr (h.next + 2) 0 ∧ Fr.get tm 9 = .slice (some ⟨h.next + 3, 0, none⟩) l.length (2 * l.length + 1) ∧ Fr.get tm 10 = .int .i64 (n - sumI (shL l n)) ∧ OW (intE .i64) 1 h' (.slice (some ⟨h.next, 0, none⟩) l.length (2 * l.length + 1)) (shL l n) ∧ OW (intE .i64) 1 h' (.slice (some ⟨h.next + 1, 0, none⟩) l.length (2 * l.length + 1)) (ofL l n) ∧ OW (intE .i64) 1 h' (.slice (some ⟨h.next + 3, 0, none⟩) l.length (2 * l.length + 1)) (idxL l.length) ∧ h'.get (h.next + 2) = .cells [.slice (some ⟨h.next + 1, 0, none⟩) l.length (2 * l.length + 1)] 0 ∧ h'.next = h.next + 4 ∧ Ext h h') ?_ l.length _ _ ?_ ?_).mono ?_
  rotate_left
  · exact ⟨0, _, h1, rfl, rfl, Nat.zero_le _, by simp (maxSteps := 1000000) (disch := first | decide | omega | (simp only [go_sem]; first | done | omega)) only [go_sem, Int.reduceToNat, Nat.reduceMul, Nat.reduceAdd, Nat.reduceSub, ↓EU_region, ↓EU_draw], by simp (maxSteps := 1000000) (disch := first | decide | omega | (simp only [go_sem]; first | done | omega)) only [go_sem, Int.reduceToNat, Nat.reduceMul, Nat.reduceAdd, Nat.reduceSub, ↓EU_region, ↓EU_draw], by simp (maxSteps := 1000000) (disch := first | decide | omega | (simp only [go_sem]; first | done | omega)) only [go_sem, Int.reduceToNat, Nat.reduceMul, Nat.reduceAdd, Nat.reduceSub, ↓EU_region, ↓EU_draw], by simp (maxSteps := 1000000) (disch := first | decide | omega | (simp only [go_sem]; first | done | omega)) only [go_sem, Int.reduceToNat, Nat.reduceMul, Nat.reduceAdd, Nat.reduceSub, ↓EU_region, ↓EU_draw], by simp (maxSteps := 1000000) (disch := first | decide | omega | (simp only [go_sem]; first | done | omega)) only [go_sem, Int.reduceToNat, Nat.reduceMul, Nat.reduceAdd, Nat.reduceSub, ↓EU_region, ↓EU_draw], by simp (maxSteps := 1000000) (disch := first | decide | omega | (simp only [go_sem]; first | done | omega)) only [go_sem, Int.reduceToNat, Nat.reduceMul, Nat.reduceAdd, Nat.reduceSub, ↓EU_region, ↓EU_draw]; exact congrArg (Value.int .i64) (Int.sub_zero n).symm, by simp (maxSteps := 1000000) (disch := first | decide | omega | (simp only [go_sem]; first | done | omega)) only [go_sem, Int.reduceToNat, Nat.reduceMul, Nat.reduceAdd, Nat.reduceSub, ↓EU_region, ↓EU_draw], by simp (maxSteps := 1000000) (disch := first | decide | omega | (simp only [go_sem]; first | done | omega)) only [go_sem, Int.reduceToNat, Nat.reduceMul, Nat.reduceAdd, Nat.reduceSub, ↓EU_region, ↓EU_draw], by simp (maxSteps := 1000000) (disch := first | decide | omega | (simp only [go_sem]; first | done | omega)) only [go_sem, Int.reduceToNat, Nat.reduceMul, Nat.reduceAdd, Nat.reduceSub, ↓EU_region, ↓EU_draw]; rfl, o1, o2, o3, b2, n1, x1⟩
  · omega
  · clear o1 o2 o3 b2
    rintro ⟨_, _⟩ ⟨tm, h', rfl, rfl, g7, g8, g9, g10, o1, o2, o3, b2, n2, x2⟩
    have hmem : ∀ x ∈ idxL l.length, ∃ u : Nat, u < l.length ∧ x = (u : Int) := fun x hx => idxL_mem hx
    have C : CMP (.func (.func 26) ⟨[]⟩ ⟨[ptr (h.next + 2) 0]⟩) (fun x => (ofL l n).getD x.toNat 0) (fun x => ∃ u : Nat, u < l.length ∧ x = (u : Int)) (.slice (some ⟨h.next + 3, 0, none⟩) l.length (2 * l.length + 1)) h' := by
      rintro h2 md x y ⟨u, hu, rfl⟩ ⟨w, hw, rfl⟩
      rw [CALLV_fn]
      have nb : ∀ j, blkOf (.slice (some ⟨h.next + 3, 0, none⟩) l.length (2 * l.length + 1)) j → j = h.next + 3 := fun j e => blk_eq e
      exact parts1_ev ((md.old (h.next + 2) (by omega) (fun e => by have := nb _ e; omega)).trans b2) (o2.mod md (fun j e1 e2 => by have e1 := blk_eq e1; have := nb _ e2; omega)).sl (by rw [lof]; exact hu) (by rw [lof]; exact hw)
    have hst := sortS_ev C ⟨o3, Mod.refl _ _⟩ hmem (by rw [lid]; exact hl) (by rw [lid]; exact idxL_asc _)
    rw [lid] at hst
    simp (maxSteps := 1000000) (disch := first | decide | omega | (simp only [go_sem]; first | done | omega)) only [go_sem, Int.reduceToNat, Nat.reduceMul, Nat.reduceAdd, Nat.reduceSub, ↓EU_region, ↓EU_draw, g8, g9]
    repeat refine WPo_ob ?_
    refine hst.mono ?_
    rintro ⟨v, h2⟩ ⟨O, qO, pO, sO⟩
    have lO : O.length = l.length := by rw [pO.length_eq, lid]
    have m3 : Mod (blkOf (.slice (some ⟨h.next + 3, 0, none⟩) l.length (2 * l.length + 1))) h' h2 := qO.md
    have nb : ∀ j, blkOf (.slice (some ⟨h.next + 3, 0, none⟩) l.length (2 * l.length + 1)) j → j = h.next + 3 := fun j e => blk_eq e
    have o1 := o1.mod m3 (fun j e1 e2 => by have e1 := blk_eq e1; have := nb _ e2; omega)
    have hle : h'.next ≤ h2.next := m3.le
    have x3 : Ext h h2 := ⟨by have := x2.le; omega, fun j hj => by rw [m3.old j (by omega) (fun e => by have := nb _ e; omega)]; exact x2.old j hj⟩
    have hbS := sumI_bd (shL l n) hbd
    have hlb : 0 ≤ n - sumI (shL l n) := by
      by_cases hz : l = []
      · subst hz
        show 0 ≤ n - 0
        omega
      · have h0 : 0 < l.length := List.length_pos_iff.2 hz
        exact (left_bd hmay (by omega) hn).1
    obtain ⟨left, hleft⟩ := Int.eq_ofNat_of_zero_le hlb
    rw [hleft] at g10
    have nd : O.Nodup := pO.nodup_iff.2 (idxL_nodup _)
    have oO := qO.ow
    generalize hSH : shL l n = SH at *
    simp (maxSteps := 1000000) (disch := first | decide | omega | (simp only [go_sem]; first | done | omega)) only [go_sem, Int.reduceToNat, Nat.reduceMul, Nat.reduceAdd, Nat.reduceSub, ↓EU_region, ↓EU_draw, g9]
    repeat refine WPo_ob ?_
    refine (LP_rule (fun m st => ∃ (j : Nat) (tm : Fr) (h' : Heap) (Q : List Int), st = ⟨tm, h', []⟩ ∧ m = l.length - j ∧ j ≤ l.length ∧ Fr.get tm 7 = .slice (some ⟨h.next, 0, none⟩) l.length (2 * l.length + 1) ∧ Fr.get tm 10 = .int .i64 ((left - min j left : Nat) : Int) ∧ Fr.get tm 79 = .slice (some ⟨h.next + 3, 0, none⟩) l.length (2 * l.length + 1) ∧ Fr.get tm 80 = .int .i64 (l.length : Int) ∧ Fr.get tm 81 = .int .i64 (j : Int) ∧ Q.length = l.length ∧ (∀ (i : Nat) (v : Int), SH[i]? = some v → Q[i]? = some (v + if (i : Int) ∈ O.take (min j left) then 1 else 0)) ∧ sumI Q = sumI SH + (min j left : Nat) ∧ OW (intE .i64) 1 h' (.slice (some ⟨h.next, 0, none⟩) l.length (2 * l.length + 1)) Q ∧ OW (intE .i64) 1 h' (.slice (some ⟨h.next + 3, 0, none⟩) l.length (2 * l.length + 1)) O ∧ Ext h h')
      (fun q => ∃ (tm : Fr) (h' : Heap) (Q : List Int), q.2 = ⟨tm, h', []⟩ ∧ q.1 = .exit 2 ∧ Fr.get tm 7 = .slice (some ⟨h.next, 0, none⟩) l.length (2 * l.length + 1) ∧ Q.length = l.length ∧ (∀ (i : Nat) (v : Int), SH[i]? = some v → Q[i]? = some (v + if (i : Int) ∈ O.take left then 1 else 0)) ∧ sumI Q = sumI SH + (min l.length left : Nat) ∧ OW (intE .i64) 1 h' (.slice (some ⟨h.next, 0, none⟩) l.length (2 * l.length + 1)) Q ∧ Ext h h') ?_ l.length _ _ ?_ ?_).mono ?_
    · clear g7 g8 g9 g10
      rintro m _ ⟨j, tm, h4, Q, rfl, hm, hj, g7, g10, g79, g80, g81, lQ, vQ, sQ, oQ, oO4, x4⟩
      by_cases hq : j < l.length
      rotate_left
      · have d : decide ((j : Int) < (l.length : Int)) = false := decide_eq_false (by omega)
        obtain rfl : j = l.length := by omega
        simp (maxSteps := 1000000) (disch := first | decide | omega | (simp only [go_sem]; first | done | omega)) only [go_sem, Int.reduceToNat, Nat.reduceMul, Nat.reduceAdd, Nat.reduceSub, ↓EU_region, ↓EU_draw, g80, g81, d]
        refine ⟨_, h4, Q, rfl, trivial, by simp (maxSteps := 1000000) (disch := first | decide | omega | (simp only [go_sem]; first | done | omega)) only [go_sem, Int.reduceToNat, Nat.reduceMul, Nat.reduceAdd, Nat.reduceSub, ↓EU_region, ↓EU_draw, g7], lQ, fun i v hv => ?_, sQ, oQ, x4⟩
        have e1 : O.take (min l.length left) = O.take left := by
          by_cases q : l.length ≤ left
          · rw [Nat.min_eq_left q, List.take_of_length_le (by omega), List.take_of_length_le (by omega)]
          · rw [Nat.min_eq_right (by omega)]
        rw [← e1]
        exact vQ i v hv
      have hmm : l.length - (j + 1) < m := by omega
      have d : decide ((j : Int) < (l.length : Int)) = true := decide_eq_true (by omega)
      have hwj : wrapF .i64 ((j : Int) + 1) = ((j + 1 : Nat) : Int) := by rw [wrap64 (by omega)]; rfl
      obtain ⟨e, he⟩ : ∃ e, O[j]? = some e := ⟨_, List.getElem?_eq_getElem (by omega)⟩
      obtain ⟨u, hu, rfl⟩ := hmem e (pO.mem_iff.1 (List.mem_of_getElem? he))
      obtain ⟨B', o', c', e, _, _, t1⟩ := oO4.sl.at he rfl
      rw [lO] at e
      cases e
      have t1 := t1 0 _ rfl
      simp only [Nat.add_zero, Nat.mul_one, Nat.zero_add] at t1
      by_cases hjl : j < left
      rotate_left
      · have dl : decide (0 < ((left - min j left : Nat) : Int)) = false := decide_eq_false (by omega)
        have em : min (j + 1) left = min j left := by omega
        simp (maxSteps := 1000000) (disch := first | decide | omega | (simp only [go_sem]; first | done | omega)) only [go_sem, Int.reduceToNat, Nat.reduceMul, Nat.reduceAdd, Nat.reduceSub, ↓EU_region, ↓EU_draw, g10, g79, g80, g81, d, t1, Nat.mul_one, dl, hwj, Nat.zero_add]
        exact ⟨l.length - (j + 1), hmm, j + 1, _, h4, Q, rfl, rfl, hq, by simp (maxSteps := 1000000) (disch := first | decide | omega | (simp only [go_sem]; first | done | omega)) only [go_sem, Int.reduceToNat, Nat.reduceMul, Nat.reduceAdd, Nat.reduceSub, ↓EU_region, ↓EU_draw, g7], by rw [em]; simp (maxSteps := 1000000) (disch := first | decide | omega | (simp only [go_sem]; first | done | omega)) only [go_sem, Int.reduceToNat, Nat.reduceMul, Nat.reduceAdd, Nat.reduceSub, ↓EU_region, ↓EU_draw, g10], by simp (maxSteps := 1000000) (disch := first | decide | omega | (simp only [go_sem]; first | done | omega)) only [go_sem, Int.reduceToNat, Nat.reduceMul, Nat.reduceAdd, Nat.reduceSub, ↓EU_region, ↓EU_draw, g79], by simp (maxSteps := 1000000) (disch := first | decide | omega | (simp only [go_sem]; first | done | omega)) only [go_sem, Int.reduceToNat, Nat.reduceMul, Nat.reduceAdd, Nat.reduceSub, ↓EU_region, ↓EU_draw, g80], by simp (maxSteps := 1000000) (disch := first | decide | omega | (simp only [go_sem]; first | done | omega)) only [go_sem, Int.reduceToNat, Nat.reduceMul, Nat.reduceAdd, Nat.reduceSub, ↓EU_region, ↓EU_draw], lQ, by rw [em]; exact vQ, by rw [em]; exact sQ, oQ, oO4, x4⟩
      have dl : decide (0 < ((left - min j left : Nat) : Int)) = true := decide_eq_true (by omega)
      have em1 : min j left = j := by omega
      have em2 : min (j + 1) left = j + 1 := by omega
      obtain ⟨v, hv⟩ : ∃ v, SH[u]? = some v := ⟨_, List.getElem?_eq_getElem (by omega)⟩
      have hvb := hbd v (List.mem_of_getElem? hv)
      have hnot : ¬ ((u : Int) ∈ O.take j) := fun hin => by
        obtain ⟨p, hp⟩ := List.getElem?_of_mem hin
        have hpl := (List.getElem?_eq_some_iff.1 hp).1
        rw [List.length_take] at hpl
        rw [List.getElem?_take_of_lt (by omega)] at hp
        have := (List.getElem?_inj (by omega) nd).1 (hp.trans he.symm)
        omega
      have hQu : Q[u]? = some v := by
        have := vQ u v hv
        rw [em1, if_neg hnot, Int.add_zero] at this
        exact this
      obtain ⟨B', o', c', e, _, _, t2⟩ := oQ.sl.at hQu rfl
      rw [lQ] at e
      cases e
      have t2 := t2 0 _ rfl
      simp only [Nat.add_zero, Nat.mul_one, Nat.zero_add] at t2
      obtain ⟨B', o', c', cs, e, hB, hc, hfit, oQ'⟩ := oQ.put i64_len u (v + 1) (by omega)
      rw [lQ] at e
      cases e
      rw [Nat.mul_one, Nat.zero_add] at hfit oQ'
      have oQ' : OW (intE .i64) 1 (h4.set h.next (.cells (cs.set u (.int .i64 (v + 1))) 1)) (.slice (some ⟨h.next, 0, none⟩) l.length (2 * l.length + 1)) (Q.set u (v + 1)) := oQ'
      have wv : wrapF .i64 (v + 1) = v + 1 := wrap64 (by omega)
      have wl : wrapF .i64 (((left - min j left : Nat) : Int) - 1) = ((left - min (j + 1) left : Nat) : Int) := by rw [wrap64 (by omega)]; omega
      have m5 : Mod (fun i => i = h.next) h4 (h4.set h.next (.cells (cs.set u (.int .i64 (v + 1))) 1)) := (Mod.refl _ _).set _ _ (fun _ => rfl)
      have oO5 := oO4.mod m5 (fun i e1 e2 => by have e1 := blk_eq e1; omega)
      rw [hc, rdc1_c] at t2
      simp (maxSteps := 1000000) (disch := first | decide | omega | (simp only [go_sem]; first | done | omega)) only [go_sem, Int.reduceToNat, Nat.reduceMul, Nat.reduceAdd, Nat.reduceSub, ↓EU_region, ↓EU_draw, g7, g10, g79, g80, g81, d, t1, Nat.mul_one, dl, hwj, t2, hc, wv, wl, Nat.zero_add]
      refine ⟨l.length - (j + 1), hmm, j + 1, _, _, Q.set u (v + 1), rfl, rfl, hq, by simp (maxSteps := 1000000) (disch := first | decide | omega | (simp only [go_sem]; first | done | omega)) only [go_sem, Int.reduceToNat, Nat.reduceMul, Nat.reduceAdd, Nat.reduceSub, ↓EU_region, ↓EU_draw, g7], by simp (maxSteps := 1000000) (disch := first | decide | omega | (simp only [go_sem]; first | done | omega)) only [go_sem, Int.reduceToNat, Nat.reduceMul, Nat.reduceAdd, Nat.reduceSub, ↓EU_region, ↓EU_draw], by simp (maxSteps := 1000000) (disch := first | decide | omega | (simp only [go_sem]; first | done | omega)) only [go_sem, Int.reduceToNat, Nat.reduceMul, Nat.reduceAdd, Nat.reduceSub, ↓EU_region, ↓EU_draw, g79], by simp (maxSteps := 1000000) (disch := first | decide | omega | (simp only [go_sem]; first | done | omega)) only [go_sem, Int.reduceToNat, Nat.reduceMul, Nat.reduceAdd, Nat.reduceSub, ↓EU_region, ↓EU_draw, g80], by simp (maxSteps := 1000000) (disch := first | decide | omega | (simp only [go_sem]; first | done | omega)) only [go_sem, Int.reduceToNat, Nat.reduceMul, Nat.reduceAdd, Nat.reduceSub, ↓EU_region, ↓EU_draw], by rw [List.length_set]; exact lQ, fun i w hw => ?_, ?_, oQ', oO5, x4.set _ _ (Nat.le_refl _)⟩
      · rw [em2, List.take_add_one, he]
        rw [List.getElem?_set]
        by_cases eu : u = i
        · subst eu
          rw [hv] at hw
          cases hw
          rw [if_pos rfl, if_pos (by omega), if_pos (List.mem_append_right _ (by simp))]
        · rw [if_neg eu, vQ i w hw, em1]
          congr 2
          have : ((i : Int) ∈ O.take j ++ (some (u : Int)).toList) ↔ (i : Int) ∈ O.take j := by
            rw [List.mem_append]
            constructor
            · rintro (q | q)
              · exact q
              · have : (i : Int) = (u : Int) := by simpa using q
                omega
            · exact .inl
          simp only [this]
      · rw [sumI_set Q u v (v + 1) hQu, sQ, em1, em2]
        omega
    · refine ⟨0, _, h2, SH, rfl, rfl, Nat.zero_le _, by simp (maxSteps := 1000000) (disch := first | decide | omega | (simp only [go_sem]; first | done | omega)) only [go_sem, Int.reduceToNat, Nat.reduceMul, Nat.reduceAdd, Nat.reduceSub, ↓EU_region, ↓EU_draw, g7], by rw [Nat.zero_min, Nat.sub_zero]; simp (maxSteps := 1000000) (disch := first | decide | omega | (simp only [go_sem]; first | done | omega)) only [go_sem, Int.reduceToNat, Nat.reduceMul, Nat.reduceAdd, Nat.reduceSub, ↓EU_region, ↓EU_draw, g10], by simp (maxSteps := 1000000) (disch := first | decide | omega | (simp only [go_sem]; first | done | omega)) only [go_sem, Int.reduceToNat, Nat.reduceMul, Nat.reduceAdd, Nat.reduceSub, ↓EU_region, ↓EU_draw], by simp (maxSteps := 1000000) (disch := first | decide | omega | (simp only [go_sem]; first | done | omega)) only [go_sem, Int.reduceToNat, Nat.reduceMul, Nat.reduceAdd, Nat.reduceSub, ↓EU_region, ↓EU_draw], by simp (maxSteps := 1000000) (disch := first | decide | omega | (simp only [go_sem]; first | done | omega)) only [go_sem, Int.reduceToNat, Nat.reduceMul, Nat.reduceAdd, Nat.reduceSub, ↓EU_region, ↓EU_draw]; rfl, lsh, fun i v hv => ?_, ?_, o1, oO, x3⟩
      · rw [Nat.zero_min, List.take_zero, if_neg (by simp)]
        rw [hv, Int.add_zero]
      · rw [Nat.zero_min]; omega
    · omega
    · rintro ⟨_, _⟩ ⟨tm, h4, Q, rfl, rfl, g7, lQ, vQ, sQ, oQ, x4⟩
      simp (maxSteps := 1000000) (disch := first | decide | omega | (simp only [go_sem]; first | done | omega)) only [go_sem, Int.reduceToNat, Nat.reduceMul, Nat.reduceAdd, Nat.reduceSub, ↓EU_region, ↓EU_draw, g7]
      exact ⟨O, Q, left, hleft.symm, pO, sO, lQ, vQ, sQ, oQ, Fresh.mk _ _ _ (Nat.le_refl _), x4⟩
  clear o1 o2 o3 b2
  rintro m _ ⟨i, tm, h', rfl, hm, hi, g1, g5, g7, g8, g9, g10, g40, g41, g42, o1, o2, o3, b2, n2, x2⟩
  by_cases hq : i < l.length
  rotate_left
  · have d : decide ((i : Int) < (l.length : Int)) = false := decide_eq_false (by omega)
    obtain rfl : i = l.length := by omega
    rw [prg_all lsh] at o1
    rw [prg_all lof] at o2
    rw [prg_all lid] at o3
    have e1 : (shL l n).take l.length = shL l n := List.take_of_length_le (by omega)
    rw [e1] at g10
    simp (maxSteps := 1000000) (disch := first | decide | omega | (simp only [go_sem]; first | done | omega)) only [go_sem, Int.reduceToNat, Nat.reduceMul, Nat.reduceAdd, Nat.reduceSub, ↓EU_region, ↓EU_draw, g41, g42, d]
    exact ⟨_, h', rfl, trivial, by simp (maxSteps := 1000000) (disch := first | decide | omega | (simp only [go_sem]; first | done | omega)) only [go_sem, Int.reduceToNat, Nat.reduceMul, Nat.reduceAdd, Nat.reduceSub, ↓EU_region, ↓EU_draw, g7], by simp (maxSteps := 1000000) (disch := first | decide | omega | (simp only [go_sem]; first | done | omega)) only [go_sem, Int.reduceToNat, Nat.reduceMul, Nat.reduceAdd, Nat.reduceSub, ↓EU_region, ↓EU_draw, g8], by simp (maxSteps := 1000000) (disch := first | decide | omega | (simp only [go_sem]; first | done | omega)) only [go_sem, Int.reduceToNat, Nat.reduceMul, Nat.reduceAdd, Nat.reduceSub, ↓EU_region, ↓EU_draw, g9], by simp (maxSteps := 1000000) (disch := first | decide | omega | (simp only [go_sem]; first | done | omega)) only [go_sem, Int.reduceToNat, Nat.reduceMul, Nat.reduceAdd, Nat.reduceSub, ↓EU_region, ↓EU_draw, g10], o1, o2, o3, b2, n2, x2⟩
  have hmm : l.length - (i + 1) < m := by omega
  have hi1 : i + 1 ≤ l.length := hq
  have d : decide ((i : Int) < (l.length : Int)) = true := decide_eq_true (by omega)
  obtain ⟨w, hw⟩ : ∃ w, l[i]? = some w := ⟨_, List.getElem?_eq_getElem hq⟩
  have hwm := List.mem_of_getElem? hw
  have hwi : wrapF .i64 ((i : Int) + 1) = ((i + 1 : Nat) : Int) := by rw [wrap64 (by omega)]; rfl
  obtain ⟨B, o, c', e, _, _, t0⟩ := (hs.ext x2).at hw rfl
  cases e
  have t0 := t0 0 _ rfl
  rw [add_z] at t0
  have hsE := share_ev w (sumI l) n h' (by have := hgw w hwm; omega) (by omega) (by omega)
  have hshw := hsh w hwm
  have s1 : (shL l n)[i]? = some (shareR w (sumI l) n) := by unfold shL; rw [List.getElem?_map, hw]; rfl
  have s2 : (ofL l n)[i]? = some (offR w (sumI l) n (shareR w (sumI l) n)) := by unfold ofL; rw [List.getElem?_map, hw]; rfl
  have s3 := idxL_get hq
  generalize shareR w (sumI l) n = sw at *
  obtain ⟨B', o', c', cs, e, hB, hc, hfit, o1'⟩ := o1.put i64_len i sw (by rw [prg_len lsh hi]; exact hq)
  rw [prg_len lsh hi] at e
  cases e
  rw [prg_set lsh s1] at o1'
  rw [Nat.mul_one, Nat.zero_add] at hfit o1'
  have o1' : OW (intE .i64) 1 (h'.set h.next (.cells (cs.set i (.int .i64 sw)) 1)) (.slice (some ⟨h.next, 0, none⟩) l.length (2 * l.length + 1)) (prg (shL l n) l.length (i + 1)) := o1'
  have m2 : Mod (fun j => j = h.next) h' (h'.set h.next (.cells (cs.set i (.int .i64 sw)) 1)) := (Mod.refl _ _).set _ _ (fun _ => rfl)
  have nx2 : (h'.set h.next (.cells (cs.set i (.int .i64 sw)) 1)).next = h.next + 4 := by rw [next_set]; exact n2
  have xx2 : Ext h (h'.set h.next (.cells (cs.set i (.int .i64 sw)) 1)) := x2.set _ _ (Nat.le_refl _)
  rw [Nat.mul_one] at t0
  simp (maxSteps := 1000000) (disch := first | decide | omega | (simp only [go_sem]; first | done | omega)) only [go_sem, Int.reduceToNat, Nat.reduceMul, Nat.reduceAdd, Nat.reduceSub, ↓EU_region, ↓EU_draw, g1, g5, g7, g8, g40, g41, g42, d, t0, hsE, hc, Nat.mul_one]
  generalize h'.set h.next (.cells (cs.set i (.int .i64 sw)) 1) = h2 at *
  have b2' := (m2.old (h.next + 2) (by omega) (by omega)).trans b2
  have o2 := o2.mod m2 (fun j e1 e2 => by have e1 := blk_eq e1; omega)
  have o3 := o3.mod m2 (fun j e1 e2 => by have e1 := blk_eq e1; omega)
  have r1 : (prg (shL l n) l.length (i + 1))[i]? = some sw := (prg_get (Nat.lt_succ_self i) (by omega)).trans s1
  obtain ⟨B', o', c', e, _, _, t1⟩ := o1'.sl.at r1 rfl
  rw [prg_len lsh hi1] at e
  cases e
  have t1 := t1 0 _ rfl
  rw [Nat.add_zero, Nat.mul_one, Nat.zero_add] at t1
  have hoE := off_ev w (sumI l) n sw h2
  generalize offR w (sumI l) n sw = ow at *
  obtain ⟨B', o', c', cs2, e, hB2, hc2, hfit2, o2'⟩ := o2.put i64_len i ow (by rw [prg_len lof hi]; exact hq)
  rw [prg_len lof hi] at e
  cases e
  rw [prg_set lof s2] at o2'
  rw [Nat.mul_one, Nat.zero_add] at hfit2 o2'
  have o2' : OW (intE .i64) 1 (h2.set (h.next + 1) (.cells (cs2.set i (.int .i64 ow)) 1)) (.slice (some ⟨h.next + 1, 0, none⟩) l.length (2 * l.length + 1)) (prg (ofL l n) l.length (i + 1)) := o2'
  have m3 : Mod (fun j => j = h.next + 1) h2 (h2.set (h.next + 1) (.cells (cs2.set i (.int .i64 ow)) 1)) := (Mod.refl _ _).set _ _ (fun _ => rfl)
  have nx3 : (h2.set (h.next + 1) (.cells (cs2.set i (.int .i64 ow)) 1)).next = h.next + 4 := by rw [next_set]; exact nx2
  have xx3 : Ext h (h2.set (h.next + 1) (.cells (cs2.set i (.int .i64 ow)) 1)) := xx2.set _ _ (by omega)
  rw [EU_bad _ _ rfl, EC_tab (tab := [(false, (some (0, 1))), (false, none), (false, none), (false, none), (false, none), (false, none), (false, none), (false, none), (false, none), (true, none), (false, none), (true, none)]) (by kernel_rfl)]
  simp (maxSteps := 1000000) (disch := first | decide | omega | (simp only [go_sem]; first | done | omega)) only [go_sem, Int.reduceToNat, Nat.reduceMul, Nat.reduceAdd, Nat.reduceSub, ↓EU_region, ↓EU_draw, g1, g5, g7, g8, g40, g41, g42, b2', t1, hoE, hc2, Nat.mul_one]
  generalize h2.set (h.next + 1) (.cells (cs2.set i (.int .i64 ow)) 1) = h3 at *
  have b23 := (m3.old (h.next + 2) (by omega) (by omega)).trans b2'
  have o1' := o1'.mod m3 (fun j e1 e2 => by have e1 := blk_eq e1; omega)
  have o3 := o3.mod m3 (fun j e1 e2 => by have e1 := blk_eq e1; omega)
  obtain ⟨B', o', c', cs3, e, hB3, hc3, hfit3, o3'⟩ := o3.put i64_len i (i : Int) (by rw [prg_len lid hi]; exact hq)
  rw [prg_len lid hi] at e
  cases e
  rw [prg_set lid s3] at o3'
  rw [Nat.mul_one, Nat.zero_add] at hfit3 o3'
  have o3' : OW (intE .i64) 1 (h3.set (h.next + 3) (.cells (cs3.set i (.int .i64 (i : Int))) 1)) (.slice (some ⟨h.next + 3, 0, none⟩) l.length (2 * l.length + 1)) (prg (idxL l.length) l.length (i + 1)) := o3'
  have m4 : Mod (fun j => j = h.next + 3) h3 (h3.set (h.next + 3) (.cells (cs3.set i (.int .i64 (i : Int))) 1)) := (Mod.refl _ _).set _ _ (fun _ => rfl)
  have nx4 : (h3.set (h.next + 3) (.cells (cs3.set i (.int .i64 (i : Int))) 1)).next = h.next + 4 := by rw [next_set]; exact nx3
  have xx4 : Ext h (h3.set (h.next + 3) (.cells (cs3.set i (.int .i64 (i : Int))) 1)) := xx3.set _ _ (by omega)
  have o14 := o1'.mod m4 (fun j e1 e2 => by have e1 := blk_eq e1; omega)
  have o24 := o2'.mod m4 (fun j e1 e2 => by have e1 := blk_eq e1; omega)
  have b24 := (m4.old (h.next + 2) (by omega) (by omega)).trans b23
  obtain ⟨B', o', c', e, _, _, t4⟩ := o1'.sl.at r1 rfl
  rw [prg_len lsh hi1] at e
  cases e
  have t4 := t4 0 _ rfl
  rw [Nat.add_zero, Nat.mul_one, Nat.zero_add] at t4
  have etk : (shL l n).take (i + 1) = (shL l n).take i ++ [sw] := by rw [List.take_add_one, s1]; rfl
  have hb1 := sumI_bd ((shL l n).take i) fun x hx => hbd x (List.mem_of_mem_take hx)
  have htl : ((shL l n).take i).length ≤ 64 := by rw [List.length_take]; omega
  have wl : wrapF .i64 (n - sumI ((shL l n).take i) - sw) = n - sumI ((shL l n).take (i + 1)) := by
    rw [etk, sumI_snoc, wrap64 (by omega)]; omega
  simp (maxSteps := 1000000) (disch := first | decide | omega | (simp only [go_sem]; first | done | omega)) only [go_sem, Int.reduceToNat, Nat.reduceMul, Nat.reduceAdd, Nat.reduceSub, ↓EU_region, ↓EU_draw, g7, g9, g10, hc3, t4, wl, g42, hwi, Nat.mul_one]
  exact ⟨l.length - (i + 1), hmm, i + 1, _, _, rfl, rfl, hi1, by simp (maxSteps := 1000000) (disch := first | decide | omega | (simp only [go_sem]; first | done | omega)) only [go_sem, Int.reduceToNat, Nat.reduceMul, Nat.reduceAdd, Nat.reduceSub, ↓EU_region, ↓EU_draw, g1], by simp (maxSteps := 1000000) (disch := first | decide | omega | (simp only [go_sem]; first | done | omega)) only [go_sem, Int.reduceToNat, Nat.reduceMul, Nat.reduceAdd, Nat.reduceSub, ↓EU_region, ↓EU_draw, g5], by simp (maxSteps := 1000000) (disch := first | decide | omega | (simp only [go_sem]; first | done | omega)) only [go_sem, Int.reduceToNat, Nat.reduceMul, Nat.reduceAdd, Nat.reduceSub, ↓EU_region, ↓EU_draw, g7], by simp (maxSteps := 1000000) (disch := first | decide | omega | (simp only [go_sem]; first | done | omega)) only [go_sem, Int.reduceToNat, Nat.reduceMul, Nat.reduceAdd, Nat.reduceSub, ↓EU_region, ↓EU_draw, g8], by simp (maxSteps := 1000000) (disch := first | decide | omega | (simp only [go_sem]; first | done | omega)) only [go_sem, Int.reduceToNat, Nat.reduceMul, Nat.reduceAdd, Nat.reduceSub, ↓EU_region, ↓EU_draw, g9], by simp (maxSteps := 1000000) (disch := first | decide | omega | (simp only [go_sem]; first | done | omega)) only [go_sem, Int.reduceToNat, Nat.reduceMul, Nat.reduceAdd, Nat.reduceSub, ↓EU_region, ↓EU_draw], by simp (maxSteps := 1000000) (disch := first | decide | omega | (simp only [go_sem]; first | done | omega)) only [go_sem, Int.reduceToNat, Nat.reduceMul, Nat.reduceAdd, Nat.reduceSub, ↓EU_region, ↓EU_draw, g40], by simp (maxSteps := 1000000) (disch := first | decide | omega | (simp only [go_sem]; first | done | omega)) only [go_sem, Int.reduceToNat, Nat.reduceMul, Nat.reduceAdd, Nat.reduceSub, ↓EU_region, ↓EU_draw, g41], by simp (maxSteps := 1000000) (disch := first | decide | omega | (simp only [go_sem]; first | done | omega)) only [go_sem, Int.reduceToNat, Nat.reduceMul, Nat.reduceAdd, Nat.reduceSub, ↓EU_region, ↓EU_draw], o14, o24, o3', b24, nx4, xx4⟩
end Go.Proofs.Ytoomhlfogeglcaa.EV
