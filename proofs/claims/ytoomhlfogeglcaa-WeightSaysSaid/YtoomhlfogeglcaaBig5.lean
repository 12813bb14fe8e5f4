/- The reference's numbers of any size: Mul. No condition. -/
import Derived.Test.YtoomhlfogeglcaaBig4
namespace Go.Proofs.Ytoomhlfogeglcaa.EV
open Go Go.Proofs
set_option linter.unusedVariables false
set_option linter.unusedSimpArgs false
set_option maxRecDepth 100000
set_option pp.deepTerms false
set_option pp.deepTerms.threshold 20
theorem zeroRow_i64 (n : Nat) : zeroRow [.int .i64 0] n = (List.replicate n (0 : Int)).flatMap (intE .i64) := by
  induction n with
  | zero => rw [zeroRow_z]; rfl
  | succ n ih => rw [zeroRow_s, ih, List.replicate_succ, List.flatMap_cons]; rfl
theorem val_zero (n : Nat) : val (List.replicate n 0) = 0 := by
  induction n with
  | zero => rfl
  | succ n ih => rw [List.replicate_succ, val, ih]; rfl
theorem dig_zero (n : Nat) : dig (List.replicate n 0) := fun d h => by rw [(List.mem_replicate.1 h).2]; decide
theorem val_set : ∀ (l : List Int) (i : Nat) (x : Int), i < l.length → val (l.set i x) = val l + pw i * (x - l.getD i 0)
  | [], _, _, h => by simp at h
  | d :: l, 0, x, _ => by simp [val, pw_zero]; omega
  | d :: l, i + 1, x, h => by
    have ih := val_set l i x (by simpa using h)
    rw [List.set_cons_succ, val, ih, val, pw_succ, List.getD_cons_succ]
    grind
theorem dig_set {l : List Int} (h : dig l) (i : Nat) {x : Int} (hx : 0 ≤ x ∧ x < 65536) : dig (l.set i x) := fun d hd => by
  rcases List.mem_or_eq_of_mem_set hd with q | q
  · exact h d q
  · rw [q]; exact hx
theorem val_take_succ (l : List Int) (k : Nat) : val (l.take (k + 1)) = val (l.take k) + pw k * l.getD k 0 := by
  by_cases h : k < l.length
  · have e : (l.take k).length = k := by rw [List.length_take]; omega
    rw [List.take_add_one, List.getElem?_eq_getElem h, List.getD_eq_getElem?_getD, List.getElem?_eq_getElem h, Option.toList_some, val_app, e, val_one]; rfl
  · rw [List.take_of_length_le (by omega), List.take_of_length_le (by omega), List.getD_eq_getElem?_getD, List.getElem?_eq_none (by omega)]
    simp
set_option maxHeartbeats 8000000 in
theorem rmul_ev (n m : Bool) (a b : List Int) (s t : Value) (h : Heap) (hs : SL (intE .i64) 1 h s a) (ht : SL (intE .i64) 1 h t b) (ha : dig a) (hb : dig b) (hla : a.length ≤ 30) (hlb : b.length ≤ 30) :
    WPo (EF Try.prog O0 37 [bigV n s, bigV m t] h) fun q => ∃ l v, q.1 = bigV (n != m) v ∧ SL (intE .i64) 1 q.2 v l ∧ dig l ∧ val l = val a * val b ∧ l.length = a.length + b.length + 2 ∧ Ext h q.2 := by
  unfold bigV at *
  obtain ⟨sa, sc, rfl⟩ := hs.val
  obtain ⟨ta, tc, rfl⟩ := ht.val
  rw [EF_body (O := O0) (by kernel_rfl) Try.func37 rfl (rs := [.cell 4 53]) rfl (bad := [9]) (by kernel_rfl) _ _ (m := 72) rfl]
  obtain ⟨h0, hh0⟩ : ∃ z, ((h.push (.cells [.bool n, .slice sa a.length sc] 0)).push (.cells [.bool m, .slice ta b.length tc] 0)).push (.cells [.bool false, .slice none 0 1] 0) = z := ⟨_, rfl⟩
  have x0 : Ext h h0 := by rw [← hh0]; repeat (first | exact Ext.refl _ | assumption | refine Ext.push ?_ _ | refine Ext.set ?_ _ _ (by first | omega | (simp only [next_push, next_set]; omega)))
  have c2 : h0.get h.next = .cells [.bool n, .slice sa a.length sc] 0 := by rw [← hh0]; simp (maxSteps := 1000000) (disch := first | decide | omega | (simp only [go_sem]; first | done | omega)) only [go_sem, Int.reduceToNat, Nat.reduceMul, Nat.reduceAdd, Nat.reduceSub, ↓EU_region, ↓EU_draw]
  have c3 : h0.get (h.next + 1) = .cells [.bool m, .slice ta b.length tc] 0 := by rw [← hh0]; simp (maxSteps := 1000000) (disch := first | decide | omega | (simp only [go_sem]; first | done | omega)) only [go_sem, Int.reduceToNat, Nat.reduceMul, Nat.reduceAdd, Nat.reduceSub, ↓EU_region, ↓EU_draw]
  have c4 : h0.get (h.next + 2) = .cells [.bool false, .slice none 0 1] 0 := by rw [← hh0]; simp (maxSteps := 1000000) (disch := first | decide | omega | (simp only [go_sem]; first | done | omega)) only [go_sem, Int.reduceToNat, Nat.reduceMul, Nat.reduceAdd, Nat.reduceSub, ↓EU_region, ↓EU_draw]
  have hn0 : h0.next = h.next + 3 := by rw [← hh0]; simp (maxSteps := 1000000) (disch := first | decide | omega | (simp only [go_sem]; first | done | omega)) only [go_sem, Int.reduceToNat, Nat.reduceMul, Nat.reduceAdd, Nat.reduceSub, ↓EU_region, ↓EU_draw]
  obtain ⟨N, hN⟩ : ∃ N, a.length + b.length + 2 = N := ⟨_, rfl⟩
  have hw : wrapF .i64 ((a.length : Int) + b.length) = (a.length : Int) + b.length := wrap64 (by omega)
  have hw1 : wrapF .i64 ((a.length : Int) + b.length + 2) = (a.length : Int) + b.length + 2 := wrap64 (by omega)
  have hw2 : ((a.length : Int) + b.length + 2) = (N : Int) := by omega
  have hw3 : decide (0 ≤ (N : Int)) = true := decide_eq_true (by omega)
  have hw4 : decide ((N : Int) ≤ (N : Int)) = true := decide_eq_true (by omega)
  have hnN : Nat.ble (N * 8) 1099511627776 = true := Nat.ble_eq_true_of_le (by omega)
  have hnN2 : Nat.ble N 1099511627776 = true := Nat.ble_eq_true_of_le (by omega)
  have ho0 := OW.lit (e := intE .i64) i64_len h0 (List.replicate N 0)
  rw [List.length_replicate, ← zeroRow_i64] at ho0
  have ebt := fun (i : Nat) (h' : Heap) (x : Ext h h') => rat_ev b (.slice ta b.length tc) i h' (ht.ext x) (by omega)
  simp (maxSteps := 1000000) (disch := first | decide | omega | (simp only [go_sem]; first | done | omega)) only [go_sem, Int.reduceToNat, Nat.reduceMul, Nat.reduceAdd, Nat.reduceSub, ↓EU_region, ↓EU_draw, hw, hw1, hw2, hw3, hw4, hnN, hnN2]
  rw [hh0]
  have x1 : Ext h0 (h0.push (.cells (zeroRow [.int .i64 0] N) 1)) := (Ext.refl h0).push _
  have hn1 : (h0.push (.cells (zeroRow [.int .i64 0] N) 1)).next = h.next + 4 := by rw [next_push, hn0]
  generalize h0.push (.cells (zeroRow [.int .i64 0] N) 1) = h1 at *
  rw [hn0] at ho0
  rw [show h.next + 1 + 1 + 1 = h.next + 3 from rfl]
  repeat refine WPo_ob ?_
  refine (LP_rule (fun m' st => ∃ (i : Nat) (tm : Fr) (h' : Heap) (r : List Int), st = ⟨tm, h', []⟩ ∧ m' = a.length - i ∧ i ≤ a.length ∧ r.length = N ∧ dig r ∧ Fr.get tm 2 = ptr h.next 0 ∧ Fr.get tm 3 = ptr (h.next + 1) 0 ∧ Fr.get tm 4 = ptr (h.next + 1 + 1) 0 ∧ Fr.get tm 5 = .slice (some ⟨h.next + 3, 0, none⟩) N (2 * N + 1) ∧ Fr.get tm 6 = .int .i64 i ∧ val r = val (a.take i) * val b ∧ OW (intE .i64) 1 h' (.slice (some ⟨h.next + 3, 0, none⟩) N (2 * N + 1)) r ∧ Ext h0 h')
    (fun q => ∃ tm h' r, q.2 = ⟨tm, h', []⟩ ∧ q.1 = .exit 0 ∧ r.length = N ∧ dig r ∧ Fr.get tm 2 = ptr h.next 0 ∧ Fr.get tm 3 = ptr (h.next + 1) 0 ∧ Fr.get tm 4 = ptr (h.next + 1 + 1) 0 ∧ Fr.get tm 5 = .slice (some ⟨h.next + 3, 0, none⟩) N (2 * N + 1) ∧ val r = val a * val b ∧ OW (intE .i64) 1 h' (.slice (some ⟨h.next + 3, 0, none⟩) N (2 * N + 1)) r ∧ Ext h0 h') ?_ a.length _ _ ?_ ?_).mono ?_
  · rintro m' _ ⟨i, tm, h', r, rfl, rfl, hi, hlr, hd, g2, g3, g4, g5, g6, hv, ho', x'⟩
    have k2' := c2
    have k3' := c3
    rw [← x'.old _ (by omega)] at k2' k3'
    by_cases hi' : i < a.length
    · have d1 : decide ((i : Int) < a.length) = true := decide_eq_true (by omega)
      simp (maxSteps := 1000000) (disch := first | decide | omega | (simp only [go_sem]; first | done | omega)) only [go_sem, Int.reduceToNat, Nat.reduceMul, Nat.reduceAdd, Nat.reduceSub, ↓EU_region, ↓EU_draw, g2, g3, g4, g5, g6, k2', k3', d1]
      repeat refine WPo_ob ?_
      clear k2' k3'
      refine (LP_rule (fun m2 st => ∃ (k : Nat) (tm2 : Fr) (h' : Heap) (r : List Int) (c : Int), st = ⟨tm2, h', []⟩ ∧ m2 = b.length + 2 - k ∧ k ≤ b.length + 1 ∧ r.length = N ∧ dig r ∧ 0 ≤ c ∧ c < 65536 ∧ Fr.get tm2 2 = ptr h.next 0 ∧ Fr.get tm2 3 = ptr (h.next + 1) 0 ∧ Fr.get tm2 4 = ptr (h.next + 1 + 1) 0 ∧ Fr.get tm2 5 = .slice (some ⟨h.next + 3, 0, none⟩) N (2 * N + 1) ∧ Fr.get tm2 6 = .int .i64 i ∧ Fr.get tm2 7 = .int .i64 c ∧ Fr.get tm2 8 = .int .i64 k ∧ val r + pw (i + k) * c = val (a.take i) * val b + pw i * a.getD i 0 * val (b.take k) ∧ OW (intE .i64) 1 h' (.slice (some ⟨h.next + 3, 0, none⟩) N (2 * N + 1)) r ∧ Ext h0 h')
        (fun q => ∃ tm2 h' r, q.2 = ⟨tm2, h', []⟩ ∧ q.1 = .exit 2 ∧ r.length = N ∧ dig r ∧ Fr.get tm2 2 = ptr h.next 0 ∧ Fr.get tm2 3 = ptr (h.next + 1) 0 ∧ Fr.get tm2 4 = ptr (h.next + 1 + 1) 0 ∧ Fr.get tm2 5 = .slice (some ⟨h.next + 3, 0, none⟩) N (2 * N + 1) ∧ Fr.get tm2 6 = .int .i64 i ∧ val r = val (a.take (i + 1)) * val b ∧ OW (intE .i64) 1 h' (.slice (some ⟨h.next + 3, 0, none⟩) N (2 * N + 1)) r ∧ Ext h0 h') ?_ (b.length + 2) _ _ ?_ ?_).mono ?_
      · clear hv ho' x' hd hlr g2 g3 g4 g5 g6
        rintro m2 _ ⟨k, tm2, h', r, c, rfl, rfl, hk, hlr, hd, hc0, hc1, g2, g3, g4, g5, g6, g7, g8, hv, ho', x0'⟩
        have k2' := c2
        have k3' := c3
        rw [← x0'.old _ (by omega)] at k2' k3'
        have x' := x0.trans x0'
        by_cases j1 : k < b.length
        · have d2 : decide ((k : Int) < b.length) = true := decide_eq_true (by omega)
          simp (maxSteps := 1000000) (disch := first | decide | omega | (simp only [go_sem]; first | done | omega)) only [go_sem, Int.reduceToNat, Nat.reduceMul, Nat.reduceAdd, Nat.reduceSub, ↓EU_region, ↓EU_draw, g2, g3, g4, g5, g6, g7, g8, k2', k3', d2]
          have hA := dig_at ha i
          have hB := dig_at hb k
          obtain ⟨bk, ebk⟩ : ∃ z, b.getD k 0 = z := ⟨_, rfl⟩
          have ebt' := ebt k h' x'
          rw [ebk] at hB ebt'
          obtain ⟨ai, eai⟩ : ∃ x, a[i]? = some x := ⟨_, List.getElem?_eq_getElem hi'⟩
          have eag : a.getD i 0 = ai := by rw [List.getD_eq_getElem?_getD, eai]; rfl
          rw [eag] at hA
          obtain ⟨rk, erk⟩ : ∃ x, r[i + k]? = some x := ⟨_, List.getElem?_eq_getElem (by omega)⟩
          have erg : r.getD (i + k) 0 = rk := by rw [List.getD_eq_getElem?_getD, erk]; rfl
          have hR := dig_at hd (i + k)
          rw [erg] at hR
          obtain ⟨Ba, oa, ca, e, hba, _, hra⟩ := (hs.ext x').at eai rfl
          cases e
          have hra0 := hra 0 _ rfl
          rw [add_z] at hra0
          have hP : 0 ≤ ai * bk ∧ ai * bk ≤ 65535 * 65535 := ⟨Int.mul_nonneg hA.1 hB.1, Int.mul_le_mul (by omega) (by omega) hB.1 (by decide)⟩
          obtain ⟨P, eP⟩ : ∃ z, ai * bk = z := ⟨_, rfl⟩
          have hinvP : pw (i + k) * (ai * bk) = pw i * ai * (pw k * bk) := by rw [pw_add]; grind
          rw [eP] at hP hinvP
          have wP : wrapF .i64 (ai * bk) = P := by rw [eP, wrap64 (by omega)]
          have w2 : wrapF .i64 (rk + P) = rk + P := wrap64 (by omega)
          have w3 : wrapF .i64 (rk + P + c) = rk + P + c := wrap64 (by omega)
          obtain ⟨x, ex⟩ : ∃ z, rk + P + c = z := ⟨_, rfl⟩
          have hik : wrapF .i64 ((i : Int) + (k : Int)) = ((i + k : Nat) : Int) := by rw [wrap64 (by omega)]; omega
          have hik' : (i : Int) + (k : Int) = ((i + k : Nat) : Int) := by omega
          have k1 := fun t a b => bin_rem0 Try.prog t a b .i64 x 65536 (by decide)
          have k2 := fun t a b => bin_quo Try.prog t a b .i64 x 65536 (by decide)
          rw [Int.tmod_eq_emod_of_nonneg (by omega)] at k1
          rw [Int.tdiv_eq_ediv_of_nonneg (by omega), wrap64 (by omega)] at k2
          obtain ⟨B', o', c', cs, e, hB', hcB, hcl, hput⟩ := ho'.put i64_len (i + k) (x % 65536) (by omega)
          rw [hlr] at e
          cases e
          obtain ⟨B'', o'', c'', e, _, _, hr⟩ := ho'.sl.at erk rfl
          rw [hlr] at e
          cases e
          have hr0 := hr 0 _ rfl
          rw [hcB, rdc1_c] at hr0
          simp only [Nat.add_zero, Nat.zero_add] at hr0
          rw [EU_bad _ _ rfl, EC_tab (tab := [(false, none), (false, none), (false, none), (false, none), (false, none), (false, (some (0, 1))), (false, none), (false, (some (0, 1))), (false, none), (false, none), (false, (some (0, 1))), (false, none), (false, none), (false, none), (true, none), (false, none), (false, none), (false, none), (false, none), (false, none)]) (by kernel_rfl)]
          simp (maxSteps := 1000000) (disch := first | decide | omega | (simp only [go_sem]; first | done | omega)) only [go_sem, Int.reduceToNat, Nat.reduceMul, Nat.reduceAdd, Nat.reduceSub, ↓EU_region, ↓EU_draw, d2, g2, g3, g5, g6, g7, g8, k2', k3', hr0, hra0, ebt', eP, ex, hik, hik', k1, k2, hcB]
          have hinv : val (r.set (i + k) (x % 65536)) + pw (i + (k + 1)) * (x / 65536) = val (a.take i) * val b + pw i * a.getD i 0 * val (b.take (k + 1)) := by
            rw [val_set _ _ _ (by omega), erg, val_take_succ, ebk, eag, show i + (k + 1) = (i + k) + 1 from rfl, pw_succ]
            rw [eag] at hv
            have e2 : pw (i + k) * (x % 65536 - rk) + 65536 * pw (i + k) * (x / 65536) = pw (i + k) * P + pw (i + k) * c := by
              have e3 : x % 65536 - rk + 65536 * (x / 65536) = P + c := by omega
              have e4 : pw (i + k) * (x % 65536 - rk + 65536 * (x / 65536)) = pw (i + k) * (P + c) := by rw [e3]
              grind
            rw [Int.mul_add (pw i * ai), ← hinvP]
            omega
          have es : splice cs (0 + (i + k) * 1) (intE .i64 (x % 65536)) = cs.set ((i + k) * 1) (.int .i64 (x % 65536)) := by rw [Nat.zero_add]; rfl
          rw [es] at hput
          exact ⟨b.length + 2 - (k + 1), by omega, k + 1, _, _, r.set (i + k) (x % 65536), x / 65536, rfl, rfl, by omega, by rw [List.length_set]; exact hlr, dig_set hd _ (by omega), by omega, by omega, by simp (maxSteps := 1000000) (disch := first | decide | omega | (simp only [go_sem]; first | done | omega)) only [go_sem, Int.reduceToNat, Nat.reduceMul, Nat.reduceAdd, Nat.reduceSub, ↓EU_region, ↓EU_draw, g2], by simp (maxSteps := 1000000) (disch := first | decide | omega | (simp only [go_sem]; first | done | omega)) only [go_sem, Int.reduceToNat, Nat.reduceMul, Nat.reduceAdd, Nat.reduceSub, ↓EU_region, ↓EU_draw, g3], by simp (maxSteps := 1000000) (disch := first | decide | omega | (simp only [go_sem]; first | done | omega)) only [go_sem, Int.reduceToNat, Nat.reduceMul, Nat.reduceAdd, Nat.reduceSub, ↓EU_region, ↓EU_draw, g4], by simp (maxSteps := 1000000) (disch := first | decide | omega | (simp only [go_sem]; first | done | omega)) only [go_sem, Int.reduceToNat, Nat.reduceMul, Nat.reduceAdd, Nat.reduceSub, ↓EU_region, ↓EU_draw, g5], by simp (maxSteps := 1000000) (disch := first | decide | omega | (simp only [go_sem]; first | done | omega)) only [go_sem, Int.reduceToNat, Nat.reduceMul, Nat.reduceAdd, Nat.reduceSub, ↓EU_region, ↓EU_draw, g6], by simp (maxSteps := 1000000) (disch := first | decide | omega | (simp only [go_sem]; first | done | omega)) only [go_sem, Int.reduceToNat, Nat.reduceMul, Nat.reduceAdd, Nat.reduceSub, ↓EU_region, ↓EU_draw], by simp (maxSteps := 1000000) (disch := first | decide | omega | (simp only [go_sem]; first | done | omega)) only [go_sem, Int.reduceToNat, Nat.reduceMul, Nat.reduceAdd, Nat.reduceSub, ↓EU_region, ↓EU_draw], hinv, hput, x0'.set _ _ (by omega)⟩
        · have d2 : decide ((k : Int) < b.length) = false := decide_eq_false (by omega)
          have hbt : b.take k = b := List.take_of_length_le (by omega)
          have hva : val (a.take i) * val b + pw i * a.getD i 0 * val (b.take k) = val (a.take (i + 1)) * val b := by
            rw [hbt, val_take_succ, Int.add_mul]
          rw [hva] at hv
          by_cases j2 : 0 < c
          · have d3 : decide (0 < c) = true := decide_eq_true j2
            have hkl : k ≤ b.length := by
              refine Decidable.byContradiction fun q => ?_
              have ek : k = b.length + 1 := by omega
              have r1 := val_take_range ha (i + 1)
              have r2 := val_range hb
              have r3 := (val_range hd).1
              have h1 : val (a.take (i + 1)) * val b < pw (i + 1) * pw b.length := by
                have q1 := Int.mul_le_mul_of_nonneg_right (show val (a.take (i + 1)) ≤ pw (i + 1) by omega) r2.1
                have q2 := Int.mul_lt_mul_of_pos_left r2.2 (pw_pos (i + 1))
                omega
              rw [← pw_add, show i + 1 + b.length = i + k by omega] at h1
              have h2 := Int.mul_le_mul_of_nonneg_left (show 1 ≤ c by omega) (Int.le_of_lt (pw_pos (i + k)))
              omega
            rw [← hva] at hv
            simp (maxSteps := 1000000) (disch := first | decide | omega | (simp only [go_sem]; first | done | omega)) only [go_sem, Int.reduceToNat, Nat.reduceMul, Nat.reduceAdd, Nat.reduceSub, ↓EU_region, ↓EU_draw, g2, g3, g4, g5, g6, g7, g8, k2', k3', d2, d3]
            have hA := dig_at ha i
            have hB := dig_at hb k
            obtain ⟨bk, ebk⟩ : ∃ z, b.getD k 0 = z := ⟨_, rfl⟩
            have ebt' := ebt k h' x'
            rw [ebk] at hB ebt'
            obtain ⟨ai, eai⟩ : ∃ x, a[i]? = some x := ⟨_, List.getElem?_eq_getElem hi'⟩
            have eag : a.getD i 0 = ai := by rw [List.getD_eq_getElem?_getD, eai]; rfl
            rw [eag] at hA
            obtain ⟨rk, erk⟩ : ∃ x, r[i + k]? = some x := ⟨_, List.getElem?_eq_getElem (by omega)⟩
            have erg : r.getD (i + k) 0 = rk := by rw [List.getD_eq_getElem?_getD, erk]; rfl
            have hR := dig_at hd (i + k)
            rw [erg] at hR
            obtain ⟨Ba, oa, ca, e, hba, _, hra⟩ := (hs.ext x').at eai rfl
            cases e
            have hra0 := hra 0 _ rfl
            rw [add_z] at hra0
            have hP : 0 ≤ ai * bk ∧ ai * bk ≤ 65535 * 65535 := ⟨Int.mul_nonneg hA.1 hB.1, Int.mul_le_mul (by omega) (by omega) hB.1 (by decide)⟩
            obtain ⟨P, eP⟩ : ∃ z, ai * bk = z := ⟨_, rfl⟩
            have hinvP : pw (i + k) * (ai * bk) = pw i * ai * (pw k * bk) := by rw [pw_add]; grind
            rw [eP] at hP hinvP
            have wP : wrapF .i64 (ai * bk) = P := by rw [eP, wrap64 (by omega)]
            have w2 : wrapF .i64 (rk + P) = rk + P := wrap64 (by omega)
            have w3 : wrapF .i64 (rk + P + c) = rk + P + c := wrap64 (by omega)
            obtain ⟨x, ex⟩ : ∃ z, rk + P + c = z := ⟨_, rfl⟩
            have hik : wrapF .i64 ((i : Int) + (k : Int)) = ((i + k : Nat) : Int) := by rw [wrap64 (by omega)]; omega
            have hik' : (i : Int) + (k : Int) = ((i + k : Nat) : Int) := by omega
            have k1 := fun t a b => bin_rem0 Try.prog t a b .i64 x 65536 (by decide)
            have k2 := fun t a b => bin_quo Try.prog t a b .i64 x 65536 (by decide)
            rw [Int.tmod_eq_emod_of_nonneg (by omega)] at k1
            rw [Int.tdiv_eq_ediv_of_nonneg (by omega), wrap64 (by omega)] at k2
            obtain ⟨B', o', c', cs, e, hB', hcB, hcl, hput⟩ := ho'.put i64_len (i + k) (x % 65536) (by omega)
            rw [hlr] at e
            cases e
            obtain ⟨B'', o'', c'', e, _, _, hr⟩ := ho'.sl.at erk rfl
            rw [hlr] at e
            cases e
            have hr0 := hr 0 _ rfl
            rw [hcB, rdc1_c] at hr0
            simp only [Nat.add_zero, Nat.zero_add] at hr0
            rw [EU_bad _ _ rfl, EC_tab (tab := [(false, none), (false, none), (false, none), (false, none), (false, none), (false, (some (0, 1))), (false, none), (false, (some (0, 1))), (false, none), (false, none), (false, (some (0, 1))), (false, none), (false, none), (false, none), (true, none), (false, none), (false, none), (false, none), (false, none), (false, none)]) (by kernel_rfl)]
            simp (maxSteps := 1000000) (disch := first | decide | omega | (simp only [go_sem]; first | done | omega)) only [go_sem, Int.reduceToNat, Nat.reduceMul, Nat.reduceAdd, Nat.reduceSub, ↓EU_region, ↓EU_draw, d2, d3, g2, g3, g5, g6, g7, g8, k2', k3', hr0, hra0, ebt', eP, ex, hik, hik', k1, k2, hcB]
            have hinv : val (r.set (i + k) (x % 65536)) + pw (i + (k + 1)) * (x / 65536) = val (a.take i) * val b + pw i * a.getD i 0 * val (b.take (k + 1)) := by
              rw [val_set _ _ _ (by omega), erg, val_take_succ, ebk, eag, show i + (k + 1) = (i + k) + 1 from rfl, pw_succ]
              rw [eag] at hv
              have e2 : pw (i + k) * (x % 65536 - rk) + 65536 * pw (i + k) * (x / 65536) = pw (i + k) * P + pw (i + k) * c := by
                have e3 : x % 65536 - rk + 65536 * (x / 65536) = P + c := by omega
                have e4 : pw (i + k) * (x % 65536 - rk + 65536 * (x / 65536)) = pw (i + k) * (P + c) := by rw [e3]
                grind
              rw [Int.mul_add (pw i * ai), ← hinvP]
              omega
            have es : splice cs (0 + (i + k) * 1) (intE .i64 (x % 65536)) = cs.set ((i + k) * 1) (.int .i64 (x % 65536)) := by rw [Nat.zero_add]; rfl
            rw [es] at hput
            exact ⟨b.length + 2 - (k + 1), by omega, k + 1, _, _, r.set (i + k) (x % 65536), x / 65536, rfl, rfl, by omega, by rw [List.length_set]; exact hlr, dig_set hd _ (by omega), by omega, by omega, by simp (maxSteps := 1000000) (disch := first | decide | omega | (simp only [go_sem]; first | done | omega)) only [go_sem, Int.reduceToNat, Nat.reduceMul, Nat.reduceAdd, Nat.reduceSub, ↓EU_region, ↓EU_draw, g2], by simp (maxSteps := 1000000) (disch := first | decide | omega | (simp only [go_sem]; first | done | omega)) only [go_sem, Int.reduceToNat, Nat.reduceMul, Nat.reduceAdd, Nat.reduceSub, ↓EU_region, ↓EU_draw, g3], by simp (maxSteps := 1000000) (disch := first | decide | omega | (simp only [go_sem]; first | done | omega)) only [go_sem, Int.reduceToNat, Nat.reduceMul, Nat.reduceAdd, Nat.reduceSub, ↓EU_region, ↓EU_draw, g4], by simp (maxSteps := 1000000) (disch := first | decide | omega | (simp only [go_sem]; first | done | omega)) only [go_sem, Int.reduceToNat, Nat.reduceMul, Nat.reduceAdd, Nat.reduceSub, ↓EU_region, ↓EU_draw, g5], by simp (maxSteps := 1000000) (disch := first | decide | omega | (simp only [go_sem]; first | done | omega)) only [go_sem, Int.reduceToNat, Nat.reduceMul, Nat.reduceAdd, Nat.reduceSub, ↓EU_region, ↓EU_draw, g6], by simp (maxSteps := 1000000) (disch := first | decide | omega | (simp only [go_sem]; first | done | omega)) only [go_sem, Int.reduceToNat, Nat.reduceMul, Nat.reduceAdd, Nat.reduceSub, ↓EU_region, ↓EU_draw], by simp (maxSteps := 1000000) (disch := first | decide | omega | (simp only [go_sem]; first | done | omega)) only [go_sem, Int.reduceToNat, Nat.reduceMul, Nat.reduceAdd, Nat.reduceSub, ↓EU_region, ↓EU_draw], hinv, hput, x0'.set _ _ (by omega)⟩
          · have d3 : decide (0 < c) = false := decide_eq_false j2
            have c0 : c = 0 := by omega
            subst c0
            rw [Int.mul_zero, Int.add_zero] at hv
            simp (maxSteps := 1000000) (disch := first | decide | omega | (simp only [go_sem]; first | done | omega)) only [go_sem, Int.reduceToNat, Nat.reduceMul, Nat.reduceAdd, Nat.reduceSub, ↓EU_region, ↓EU_draw, g2, g3, g4, g5, g6, g7, g8, k2', k3', d2, d3]
            exact ⟨_, h', r, rfl, trivial, hlr, hd, by simp (maxSteps := 1000000) (disch := first | decide | omega | (simp only [go_sem]; first | done | omega)) only [go_sem, Int.reduceToNat, Nat.reduceMul, Nat.reduceAdd, Nat.reduceSub, ↓EU_region, ↓EU_draw, g2], by simp (maxSteps := 1000000) (disch := first | decide | omega | (simp only [go_sem]; first | done | omega)) only [go_sem, Int.reduceToNat, Nat.reduceMul, Nat.reduceAdd, Nat.reduceSub, ↓EU_region, ↓EU_draw, g3], by simp (maxSteps := 1000000) (disch := first | decide | omega | (simp only [go_sem]; first | done | omega)) only [go_sem, Int.reduceToNat, Nat.reduceMul, Nat.reduceAdd, Nat.reduceSub, ↓EU_region, ↓EU_draw, g4], by simp (maxSteps := 1000000) (disch := first | decide | omega | (simp only [go_sem]; first | done | omega)) only [go_sem, Int.reduceToNat, Nat.reduceMul, Nat.reduceAdd, Nat.reduceSub, ↓EU_region, ↓EU_draw, g5], by simp (maxSteps := 1000000) (disch := first | decide | omega | (simp only [go_sem]; first | done | omega)) only [go_sem, Int.reduceToNat, Nat.reduceMul, Nat.reduceAdd, Nat.reduceSub, ↓EU_region, ↓EU_draw, g6], hv, ho', x0'⟩
      · refine ⟨0, _, h', r, 0, rfl, rfl, by omega, hlr, hd, by decide, by decide, by simp (maxSteps := 1000000) (disch := first | decide | omega | (simp only [go_sem]; first | done | omega)) only [go_sem, Int.reduceToNat, Nat.reduceMul, Nat.reduceAdd, Nat.reduceSub, ↓EU_region, ↓EU_draw, g2], by simp (maxSteps := 1000000) (disch := first | decide | omega | (simp only [go_sem]; first | done | omega)) only [go_sem, Int.reduceToNat, Nat.reduceMul, Nat.reduceAdd, Nat.reduceSub, ↓EU_region, ↓EU_draw, g3], by simp (maxSteps := 1000000) (disch := first | decide | omega | (simp only [go_sem]; first | done | omega)) only [go_sem, Int.reduceToNat, Nat.reduceMul, Nat.reduceAdd, Nat.reduceSub, ↓EU_region, ↓EU_draw, g4], by simp (maxSteps := 1000000) (disch := first | decide | omega | (simp only [go_sem]; first | done | omega)) only [go_sem, Int.reduceToNat, Nat.reduceMul, Nat.reduceAdd, Nat.reduceSub, ↓EU_region, ↓EU_draw, g5], by simp (maxSteps := 1000000) (disch := first | decide | omega | (simp only [go_sem]; first | done | omega)) only [go_sem, Int.reduceToNat, Nat.reduceMul, Nat.reduceAdd, Nat.reduceSub, ↓EU_region, ↓EU_draw, g6], by simp (maxSteps := 1000000) (disch := first | decide | omega | (simp only [go_sem]; first | done | omega)) only [go_sem, Int.reduceToNat, Nat.reduceMul, Nat.reduceAdd, Nat.reduceSub, ↓EU_region, ↓EU_draw], by simp (maxSteps := 1000000) (disch := first | decide | omega | (simp only [go_sem]; first | done | omega)) only [go_sem, Int.reduceToNat, Nat.reduceMul, Nat.reduceAdd, Nat.reduceSub, ↓EU_region, ↓EU_draw]; rfl, ?_, ho', x'⟩
        rw [List.take_zero, hv]
        simp [val]
      · omega
      · clear hv ho' x' hd hlr g2 g3 g4 g5 g6
        rintro ⟨_, _⟩ ⟨tm2, h', r, rfl, rfl, hlr, hd, g2, g3, g4, g5, g6, hv, ho', x'⟩
        have hwi : wrapF .i64 ((i : Int) + 1) = ((i + 1 : Nat) : Int) := by rw [wrap64 (by omega)]; rfl
        simp (maxSteps := 1000000) (disch := first | decide | omega | (simp only [go_sem]; first | done | omega)) only [go_sem, Int.reduceToNat, Nat.reduceMul, Nat.reduceAdd, Nat.reduceSub, ↓EU_region, ↓EU_draw, g2, g3, g4, g5, g6, hwi]
        exact ⟨a.length - (i + 1), by omega, i + 1, _, h', r, rfl, rfl, by omega, hlr, hd, by simp (maxSteps := 1000000) (disch := first | decide | omega | (simp only [go_sem]; first | done | omega)) only [go_sem, Int.reduceToNat, Nat.reduceMul, Nat.reduceAdd, Nat.reduceSub, ↓EU_region, ↓EU_draw, g2], by simp (maxSteps := 1000000) (disch := first | decide | omega | (simp only [go_sem]; first | done | omega)) only [go_sem, Int.reduceToNat, Nat.reduceMul, Nat.reduceAdd, Nat.reduceSub, ↓EU_region, ↓EU_draw, g3], by simp (maxSteps := 1000000) (disch := first | decide | omega | (simp only [go_sem]; first | done | omega)) only [go_sem, Int.reduceToNat, Nat.reduceMul, Nat.reduceAdd, Nat.reduceSub, ↓EU_region, ↓EU_draw, g4], by simp (maxSteps := 1000000) (disch := first | decide | omega | (simp only [go_sem]; first | done | omega)) only [go_sem, Int.reduceToNat, Nat.reduceMul, Nat.reduceAdd, Nat.reduceSub, ↓EU_region, ↓EU_draw, g5], by simp (maxSteps := 1000000) (disch := first | decide | omega | (simp only [go_sem]; first | done | omega)) only [go_sem, Int.reduceToNat, Nat.reduceMul, Nat.reduceAdd, Nat.reduceSub, ↓EU_region, ↓EU_draw], hv, ho', x'⟩
    · have d1 : decide ((i : Int) < a.length) = false := decide_eq_false (by omega)
      have ei : i = a.length := by omega
      subst ei
      rw [List.take_length] at hv
      simp (maxSteps := 1000000) (disch := first | decide | omega | (simp only [go_sem]; first | done | omega)) only [go_sem, Int.reduceToNat, Nat.reduceMul, Nat.reduceAdd, Nat.reduceSub, ↓EU_region, ↓EU_draw, g2, g3, g4, g5, g6, k2', k3', d1]
      exact ⟨_, h', r, rfl, trivial, hlr, hd, by simp (maxSteps := 1000000) (disch := first | decide | omega | (simp only [go_sem]; first | done | omega)) only [go_sem, Int.reduceToNat, Nat.reduceMul, Nat.reduceAdd, Nat.reduceSub, ↓EU_region, ↓EU_draw, g2], by simp (maxSteps := 1000000) (disch := first | decide | omega | (simp only [go_sem]; first | done | omega)) only [go_sem, Int.reduceToNat, Nat.reduceMul, Nat.reduceAdd, Nat.reduceSub, ↓EU_region, ↓EU_draw, g3], by simp (maxSteps := 1000000) (disch := first | decide | omega | (simp only [go_sem]; first | done | omega)) only [go_sem, Int.reduceToNat, Nat.reduceMul, Nat.reduceAdd, Nat.reduceSub, ↓EU_region, ↓EU_draw, g4], by simp (maxSteps := 1000000) (disch := first | decide | omega | (simp only [go_sem]; first | done | omega)) only [go_sem, Int.reduceToNat, Nat.reduceMul, Nat.reduceAdd, Nat.reduceSub, ↓EU_region, ↓EU_draw, g5], hv, ho', x'⟩
  · refine ⟨0, _, h1, List.replicate N 0, rfl, rfl, by omega, List.length_replicate, dig_zero N, by simp (maxSteps := 1000000) (disch := first | decide | omega | (simp only [go_sem]; first | done | omega)) only [go_sem, Int.reduceToNat, Nat.reduceMul, Nat.reduceAdd, Nat.reduceSub, ↓EU_region, ↓EU_draw], by simp (maxSteps := 1000000) (disch := first | decide | omega | (simp only [go_sem]; first | done | omega)) only [go_sem, Int.reduceToNat, Nat.reduceMul, Nat.reduceAdd, Nat.reduceSub, ↓EU_region, ↓EU_draw], by simp (maxSteps := 1000000) (disch := first | decide | omega | (simp only [go_sem]; first | done | omega)) only [go_sem, Int.reduceToNat, Nat.reduceMul, Nat.reduceAdd, Nat.reduceSub, ↓EU_region, ↓EU_draw], by simp (maxSteps := 1000000) (disch := first | decide | omega | (simp only [go_sem]; first | done | omega)) only [go_sem, Int.reduceToNat, Nat.reduceMul, Nat.reduceAdd, Nat.reduceSub, ↓EU_region, ↓EU_draw], by simp (maxSteps := 1000000) (disch := first | decide | omega | (simp only [go_sem]; first | done | omega)) only [go_sem, Int.reduceToNat, Nat.reduceMul, Nat.reduceAdd, Nat.reduceSub, ↓EU_region, ↓EU_draw]; rfl, ?_, ho0, x1⟩
    rw [val_zero, List.take_zero]
    simp [val]
  · omega
  · rintro ⟨_, _⟩ ⟨tm, h', r, rfl, rfl, hlr, hd, g2, g3, g4, g5, hv, ho', x'⟩
    have k2' := c2
    have k3' := c3
    have k4' := c4
    rw [← x'.old _ (by omega)] at k2' k3' k4'
    simp (maxSteps := 1000000) (disch := first | decide | omega | (simp only [go_sem]; first | done | omega)) only [go_sem, Int.reduceToNat, Nat.reduceMul, Nat.reduceAdd, Nat.reduceSub, ↓EU_region, ↓EU_draw, g2, g3, g4, g5, k2', k3', k4']
    refine ⟨r, _, rfl, ho'.sl.modB (Mod.set (S := fun j => j = h.next + 1 + 1) (Mod.refl _ _) _ _ (fun _ => rfl)) (fun j hj q => by have : h.next + 3 = j := hj; omega), hd, hv, by omega, (x0.trans x').set _ _ (by omega)⟩
end Go.Proofs.Ytoomhlfogeglcaa.EV
