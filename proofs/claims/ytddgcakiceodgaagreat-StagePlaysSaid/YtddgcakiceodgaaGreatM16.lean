/- Contract: the reference's Read. No condition. Contract: the reference's Get; it says what the code's says. No condition. -/
import Derived.Test.YtddgcakiceodgaaGreatM14
import Derived.Test.YtddgcakiceodgaaGreatM15
namespace Go.Proofs.YtddgcakiceodgaaGreat.EV
open Go Go.Proofs
set_option linter.unusedVariables false
set_option linter.unusedSimpArgs false
set_option maxRecDepth 100000
noncomputable def idL (v : Int) : Nat := if v = 3 then 4 else 2
noncomputable def lagL (v : Int) : Nat := if v = 3 then 8 else if v = 2 then 4 else 0
noncomputable def curL (v : Int) : Nat := if v = 3 then 4 else if v = 2 then 2 else 0
noncomputable def szV (v : Int) : Nat := idL v + 1 + lagL v
noncomputable def lagV (v : Int) (q : List UInt8) : Int := if v = 3 then readN (q.take 8) else if v = 2 then wrapF .i32 (readN (q.take 4)) * 232792560 else 0
noncomputable def decIt (v : Int) (q : List UInt8) : Item := ⟨readN (q.take (idL v)), bN q (idL v), lagV v (q.drop (idL v + 1))⟩
noncomputable def decVs (v : Int) : Nat → List UInt8 → List Item
 | 0, _ => []
 | n + 1, q => decIt v q :: decVs v n (q.drop (szV v))
noncomputable def curV (v : Int) (p : List UInt8) : Int := if curL v = 0 then -1 else readN ((p.drop 4).take (curL v)) - 1
noncomputable def bodyV (v : Int) (p : List UInt8) : Int × Int × List Item × Int :=
 if p.length < 5 + curL v ∨ p.length ≠ 5 + curL v + szV v * bN p (4 + curL v) then (0, 0, [], 8)
 else if decide (bN p 3 ≤ 2) && goodF (curV v p) (decVs v (bN p (4 + curL v)) (p.drop (5 + curL v))) then (bN p 3, curV v p, decVs v (bN p (4 + curL v)) (p.drop (5 + curL v)), 0) else (0, 0, [], 11)
noncomputable def readR (l : List UInt8) : Int × Int × Int × List Item × Int := match openN l with
 | none => (0, 0, 0, [], 9)
 | some p => match versionN p with
  | none => (0, 0, 0, [], 8)
  | some v => if v < 1 ∨ 3 < v then (v, 0, 0, [], 10) else (v, bodyV v p)
theorem decVs_len (v : Int) : ∀ (n : Nat) (b : List UInt8), (decVs v n b).length = n
 | 0, _ => rfl
 | n + 1, b => by rw [decVs, List.length_cons, decVs_len v n]
theorem decVs_snoc (v : Int) : ∀ (i : Nat) (b : List UInt8), decVs v (i + 1) b = decVs v i b ++ [decIt v (b.drop (szV v * i))]
 | 0, b => rfl
 | i + 1, b => by
  rw [decVs, decVs_snoc v i, decVs, List.cons_append, List.drop_drop, Nat.mul_succ, Nat.add_comm (szV v)]
theorem bN_drop (p : List UInt8) (k i : Nat) : bN (p.drop k) i = bN p (k + i) := by
 unfold bN
 rw [List.getD_eq_getElem?_getD, List.getD_eq_getElem?_getD, List.getElem?_drop]
theorem bN_lt (p : List UInt8) (i : Nat) : bN p i < 256 := by unfold bN; exact (p.getD i 0).toNat_lt
theorem rd_byte {h : Heap} {v : Value} {p : List UInt8} (s : SL byteE 1 h v p) {i : Nat} (hi : i < p.length) : ∃ B o c, v = .slice (some ⟨B, o, none⟩) p.length c ∧ B < h.next ∧ rdc1 (h.get B) (o + i) = some (.int .u8 (bN p i)) := by
 obtain ⟨x, hx'⟩ : ∃ x, p[i]? = some x := ⟨_, List.getElem?_eq_getElem hi⟩
 obtain ⟨B, o, c, e, hb, _, hr⟩ := s.at hx' rfl
 have := hr 0 _ rfl
 rw [Nat.mul_one, Nat.add_zero] at this
 refine ⟨B, o, c, e, hb, ?_⟩
 rw [this]
 unfold bN
 rw [List.getD_eq_getElem?_getD, hx']; rfl
theorem wrap_i32 (n : Int) : -2147483648 ≤ wrapF .i32 n ∧ wrapF .i32 n < 2147483648 := by
 show -2147483648 ≤ cnd (true && decide ((2147483648 : Int) ≤ Int.emod n 4294967296)) (Int.emod n 4294967296 - 4294967296) (Int.emod n 4294967296) ∧ cnd (true && decide ((2147483648 : Int) ≤ Int.emod n 4294967296)) (Int.emod n 4294967296 - 4294967296) (Int.emod n 4294967296) < 2147483648
 have h1 : 0 ≤ n % 4294967296 := Int.emod_nonneg _ (by decide)
 have h2 : n % 4294967296 < 4294967296 := Int.emod_lt_of_pos _ (by decide)
 have h3 : Int.emod n 4294967296 = n % 4294967296 := rfl
 rw [h3]
 by_cases q : (2147483648 : Int) ≤ n % 4294967296
 ·rw [decide_eq_true q, Bool.true_and, cnd_true]; omega
 ·rw [decide_eq_false q, Bool.true_and, cnd_false]; omega
set_option maxHeartbeats 8000000 in
theorem rread_ev (l : List UInt8) (s : Value) (h : Heap) (hs : SL byteE 1 h s l) (hl : l.length < 700000) :
  WPo (EF Tryz.prog O0 26 [s] h) fun q => ∃ v, q.1 = .tuple ⟨[.int .i64 (readR l).1, .int .i64 (readR l).2.1, formV (readR l).2.2.1 v, .int .i64 (readR l).2.2.2.2]⟩ ∧ OW itemE 3 q.2 v (readR l).2.2.2.1 ∧ Fresh h.next v ∧ Ext h q.2 := by
 rw [EF_body (O := O0) (by kernel_rfl) Tryz.func26 rfl (rs := [.tmp 2, .tmp 3, .cell 4 52, .tmp 5]) rfl (bad := [25]) (by kernel_rfl) _ _ (m := 166) rfl]
 unfold formV
 simp (disch := first|exact dis|fail) only [go_sem, Int.reduceToNat, Nat.reduceMul, Nat.reduceAdd, Nat.reduceSub, ↓EU_rg]
 repeat refine WPo_ob ?_
 have x0 : Ext h ((((h.push (.cells [.int .i64 0, .slice none 0 1] 0)).push (.cells [.int .i64 0, .slice none 0 1] 0))).set (h.next + 1) (.cells [.int .i64 0, .slice none 0 1] 0)) := (((Ext.refl h).push _).push _).set _ _ (by omega)
 have e0 : ((((h.push (.cells [.int .i64 0, .slice none 0 1] 0)).push (.cells [.int .i64 0, .slice none 0 1] 0))).set (h.next + 1) (.cells [.int .i64 0, .slice none 0 1] 0)).get h.next = .cells [.int .i64 0, .slice none 0 1] 0 := by simp (disch := first|exact dis|fail) only [go_sem, Int.reduceToNat, Nat.reduceMul, Nat.reduceAdd, Nat.reduceSub, ↓EU_rg]
 have e1 : ((((h.push (.cells [.int .i64 0, .slice none 0 1] 0)).push (.cells [.int .i64 0, .slice none 0 1] 0))).set (h.next + 1) (.cells [.int .i64 0, .slice none 0 1] 0)).get (h.next + 1) = .cells [.int .i64 0, .slice none 0 1] 0 := by simp (disch := first|exact dis|fail) only [go_sem, Int.reduceToNat, Nat.reduceMul, Nat.reduceAdd, Nat.reduceSub, ↓EU_rg]
 have n0 : ((((h.push (.cells [.int .i64 0, .slice none 0 1] 0)).push (.cells [.int .i64 0, .slice none 0 1] 0))).set (h.next + 1) (.cells [.int .i64 0, .slice none 0 1] 0)).next = h.next + 1 + 1 := by rw [next_set, next_push, next_push]
 generalize ((((h.push (.cells [.int .i64 0, .slice none 0 1] 0)).push (.cells [.int .i64 0, .slice none 0 1] 0))).set (h.next + 1) (.cells [.int .i64 0, .slice none 0 1] 0)) = h0 at *
 refine (ropen_ev l s h0 (hs.ext x0) (by omega)).mono ?_
 rintro ⟨w, h1⟩ ⟨x1, hw⟩
 simp only at x1
 have hn1 := x1.le
 rw [n0] at hn1
 have c0 : h1.get h.next = .cells [.int .i64 0, .slice none 0 1] 0 := by rw [x1.old _ (by omega)]; exact e0
 have c1 : h1.get (h.next + 1) = .cells [.int .i64 0, .slice none 0 1] 0 := by rw [x1.old _ (by omega)]; exact e1
 have y1 : Ext h h1 := x0.trans x1
 unfold readR
 cases ho : openN l with
 | none =>
  rw [ho] at hw
  simp only at hw
  subst hw
  simp (disch := first|exact dis|fail) only [go_sem, Int.reduceToNat, Nat.reduceMul, Nat.reduceAdd, Nat.reduceSub, ↓EU_rg, dec_t, dec_f, c0, c1]
  exact ⟨_, rfl, OW.nil, Fresh.nil _ _ _, y1.set _ _ (Nat.le_refl _)⟩
 | some p =>
  rw [ho] at hw
  obtain ⟨u, hw, hv, hf⟩ := hw
  simp only at hw
  subst hw
  have hpl := openN_len ho
  have su := hv.sl
  dsimp only
  have hg3 : ∀ v, versionN p = some v → (3 ≤ p.length ∧ bN p 0 = 83 ∧ bN p 1 = 72 ∧ v = (bN p 2 : Int)) := fun v hb => by
   obtain ⟨c, r, rfl, rfl⟩ := versionN_inv hb
   exact ⟨by simp only [List.length_cons]; omega, rfl, rfl, rfl⟩
  have hg0 : versionN p = none → 3 ≤ p.length → bN p 0 = 83 → bN p 1 = 72 → False := fun hb h3 h0 h1 => by
   match p, h3 with
   | a :: b :: c :: r, _ =>
    have ea : a = 83 := UInt8.toNat_inj.1 h0
    have eb : b = 72 := UInt8.toNat_inj.1 h1
    subst ea; subst eb
    cases hb
  obtain ⟨au, ku, hu⟩ := su.val
  subst hu
  cases hb : versionN p with
  | none =>
   dsimp only
   by_cases h3 : 3 ≤ p.length
   ·obtain ⟨B, o, c, e, hB, r0⟩ := rd_byte su (i := 0) (by omega)
    cases e
    obtain ⟨B', o', c', e, _, r1⟩ := rd_byte su (i := 1) (by omega)
    cases e
    have hd : decide ((p.length : Int) < 3) = false := decide_eq_false (by omega)
    rw [Nat.add_zero] at r0
    simp (disch := first|exact dis|fail) only [go_sem, Int.reduceToNat, Nat.reduceMul, Nat.reduceAdd, Nat.reduceSub, ↓EU_rg, hd, r0, r1]
    ((repeat refine WPo_ob ?_); (first | refine WPo_cond (fun b1 => ?_) (fun b1 => ?_) | refine WPo_gard (fun b1 => ?_) (fun b1 => ?_) | refine WPo_gardT (fun b1 => ?_) (fun b1 => ?_)) <;> (try simp only [Bool.not_eq_true', Bool.not_eq_false'] at b1))
    ·have b1' := b1
     simp only [decide_eq_true_eq] at b1'
     simp (disch := first|exact dis|fail) only [go_sem, Int.reduceToNat, Nat.reduceMul, Nat.reduceAdd, Nat.reduceSub, ↓EU_rg, dec_t, dec_f, hd, r0, r1, b1]
     have hne : ¬ ((bN p 1 : Nat) : Int) = 72 := fun q => hg0 hb h3 (by omega) (by omega)
     have hdn : decide (((bN p 1 : Nat) : Int) = 72) = false := decide_eq_false hne
     simp (disch := first|exact dis|fail) only [go_sem, Int.reduceToNat, Nat.reduceMul, Nat.reduceAdd, Nat.reduceSub, ↓EU_rg, dec_t, dec_f, hd, r0, r1, b1, hdn, c0, c1]
     exact ⟨_, rfl, OW.nil, Fresh.nil _ _ _, y1.set _ _ (Nat.le_refl _)⟩
    ·simp (disch := first|exact dis|fail) only [go_sem, Int.reduceToNat, Nat.reduceMul, Nat.reduceAdd, Nat.reduceSub, ↓EU_rg, dec_t, dec_f, b1, c0, c1]
     exact ⟨_, rfl, OW.nil, Fresh.nil _ _ _, y1.set _ _ (Nat.le_refl _)⟩
   ·have hd : decide ((p.length : Int) < 3) = true := decide_eq_true (by omega)
    simp (disch := first|exact dis|fail) only [go_sem, Int.reduceToNat, Nat.reduceMul, Nat.reduceAdd, Nat.reduceSub, ↓EU_rg, dec_t, dec_f, hd, c0, c1]
    exact ⟨_, rfl, OW.nil, Fresh.nil _ _ _, y1.set _ _ (Nat.le_refl _)⟩
  | some v =>
   obtain ⟨h3, g0, g1, rfl⟩ := hg3 v hb
   obtain ⟨B, o, c, e, hB, r0⟩ := rd_byte su (i := 0) (by omega)
   cases e
   obtain ⟨B', o', c', e, _, r1⟩ := rd_byte su (i := 1) (by omega)
   cases e
   obtain ⟨B', o', c', e, _, r2⟩ := rd_byte su (i := 2) (by omega)
   cases e
   rw [Nat.add_zero, g0] at r0
   rw [g1] at r1
   have hlt2 := bN_lt p 2
   generalize hv2 : bN p 2 = v at *
   have hw2 : wrapF .i64 (v : Int) = v := wrap64 (by omega)
   dsimp only
   have hd : decide ((p.length : Int) < 3) = false := decide_eq_false (by omega)
   by_cases hvr : (v : Int) < 1 ∨ 3 < (v : Int)
   ·rw [if_pos hvr]
    by_cases hv1 : (v : Int) < 1
    ·have hd1 : decide ((v : Int) < 1) = true := decide_eq_true hv1
     simp (disch := first|exact dis|fail) only [go_sem, Int.reduceToNat, Nat.reduceMul, Nat.reduceAdd, Nat.reduceSub, ↓EU_rg, dec_t, dec_f, hd, r0, r1, r2, hw2, hd1, c0, c1]
     exact ⟨_, rfl, OW.nil, Fresh.nil _ _ _, y1.set _ _ (Nat.le_refl _)⟩
    ·have hd1 : decide ((v : Int) < 1) = false := decide_eq_false hv1
     have hd3 : decide (3 < (v : Int)) = true := decide_eq_true (by omega)
     simp (disch := first|exact dis|fail) only [go_sem, Int.reduceToNat, Nat.reduceMul, Nat.reduceAdd, Nat.reduceSub, ↓EU_rg, dec_t, dec_f, hd, r0, r1, r2, hw2, hd1, hd3, c0, c1]
     exact ⟨_, rfl, OW.nil, Fresh.nil _ _ _, y1.set _ _ (Nat.le_refl _)⟩
   ·rw [if_neg hvr]
    have hv3 : v = 1 ∨ v = 2 ∨ v = 3 := by omega
    rcases hv3 with rfl | rfl | rfl
    ·skip
     have hBV : bodyV ((1 : Nat) : Int) p = (if p.length < 5 ∨ p.length ≠ 5 + 3 * bN p 4 then (0, 0, [], 8) else if decide (bN p 3 ≤ 2) && goodF (curV 1 p) (decVs 1 (bN p 4) (p.drop 5)) then ((bN p 3 : Int), curV 1 p, decVs 1 (bN p 4) (p.drop 5), 0) else (0, 0, [], 11)) := rfl
     simp (disch := first|exact dis|fail) only [go_sem, Int.reduceToNat, Nat.reduceMul, Nat.reduceAdd, Nat.reduceSub, ↓EU_rg, dec_t, dec_f, hd, r0, r1, r2, hw2, Int.reduceAdd, Int.reduceSub, Int.reduceMul]
     ((repeat refine WPo_ob ?_); (first | refine WPo_cond (fun b1 => ?_) (fun b1 => ?_) | refine WPo_gard (fun b1 => ?_) (fun b1 => ?_) | refine WPo_gardT (fun b1 => ?_) (fun b1 => ?_)) <;> (try simp only [Bool.not_eq_true', Bool.not_eq_false'] at b1))
     ·have b1' := b1
      simp only [decide_eq_false_iff_not] at b1'
      obtain ⟨B', o', c', e, _, r7⟩ := rd_byte su (i := 4) (by omega)
      cases e
      have hlt7 := bN_lt p 4
      have hw7 : wrapF .i64 (bN p 4 : Int) = bN p 4 := wrap64 (by omega)
      simp (disch := first|exact dis|fail) only [go_sem, Int.reduceToNat, Nat.reduceMul, Nat.reduceAdd, Nat.reduceSub, ↓EU_rg, dec_t, dec_f, b1, r7, hw7, Int.reduceAdd, Int.reduceSub, Int.reduceMul]
      ((repeat refine WPo_ob ?_); (first | refine WPo_cond (fun b2 => ?_) (fun b2 => ?_) | refine WPo_gard (fun b2 => ?_) (fun b2 => ?_) | refine WPo_gardT (fun b2 => ?_) (fun b2 => ?_)) <;> (try simp only [Bool.not_eq_true', Bool.not_eq_false'] at b2))
      ·have b2' := b2
       simp only [decide_eq_false_iff_not] at b2'
       rw [if_pos (.inr (by omega))] at hBV
       rw [hBV]
       simp (disch := first|exact dis|fail) only [go_sem, Int.reduceToNat, Nat.reduceMul, Nat.reduceAdd, Nat.reduceSub, ↓EU_rg, dec_t, dec_f, b2, c0, c1]
       exact ⟨_, rfl, OW.nil, Fresh.nil _ _ _, y1.set _ _ (Nat.le_refl _)⟩
      ·have b2' := b2
       simp only [decide_eq_true_eq] at b2'
       rw [if_neg (by omega)] at hBV
       have hpn : p.length = 5 + 3 * bN p 4 := by omega
       generalize hn : bN p 4 = n at *
       have hcu : curV 1 p = -1 := rfl
       simp (disch := first|exact dis|fail) only [go_sem, Int.reduceToNat, Nat.reduceMul, Nat.reduceAdd, Nat.reduceSub, ↓EU_rg, dec_t, dec_f, Int.reduceAdd, Int.reduceSub, Int.reduceMul]
       rw [← hcu]
       generalize curV 1 p = cur at *
       repeat refine WPo_ob ?_
       refine (LP_rule (fun m st => ∃ (i a : Nat) (tm : Fr) (h' : Heap) (v : Value), st = ⟨tm, h', []⟩ ∧ m = n - i ∧ i ≤ n ∧ a = 5 + 3 * i ∧ Fr.get tm 4 = ptr h.next 0 ∧ Fr.get tm 6 = ptr (h.next + 1) 0 ∧ Fr.get tm 7 = .slice (some ⟨B, o, none⟩) p.length ku ∧ Fr.get tm 9 = .int .i64 ((1 : Nat) : Int) ∧ Fr.get tm 11 = .int .i64 2 ∧ Fr.get tm 14 = .int .i64 3 ∧ Fr.get tm 15 = ptr h1.next 0 ∧ Fr.get tm 16 = .int .i64 a ∧ h'.get h1.next = .cells [.int .i64 cur, v] 0 ∧ OW itemE 3 h' v (decVs 1 i (p.drop 5)) ∧ Fresh (h1.next + 1) v ∧ Ext h1 h' ∧ h1.next < h'.next)
        (fun q => ∃ tm h' v, q.2 = ⟨tm, h', []⟩ ∧ q.1 = .exit 1 ∧ Fr.get tm 4 = ptr h.next 0 ∧ Fr.get tm 6 = ptr (h.next + 1) 0 ∧ Fr.get tm 7 = .slice (some ⟨B, o, none⟩) p.length ku ∧ Fr.get tm 9 = .int .i64 ((1 : Nat) : Int) ∧ Fr.get tm 15 = ptr h1.next 0 ∧ h'.get h1.next = .cells [.int .i64 cur, v] 0 ∧ OW itemE 3 h' v (decVs 1 n (p.drop 5)) ∧ Fresh (h1.next + 1) v ∧ Ext h1 h' ∧ h1.next < h'.next) ?_ n _ _ ?_ ?_).mono ?_
       ·rintro m _ ⟨i, a, tm, h', v, rfl, rfl, hi, ha, k4, k6, k7, k9, k11, k14, k15, k16, hcB, hov, hfv, x', hlt⟩
        simp (disch := first|exact dis|fail) only [go_sem, Int.reduceToNat, Nat.reduceMul, Nat.reduceAdd, Nat.reduceSub, ↓EU_rg, k4, k6, k7, k9, k11, k14, k15, k16]
        ((repeat refine WPo_ob ?_); (first | refine WPo_cond (fun b3 => ?_) (fun b3 => ?_) | refine WPo_gard (fun b3 => ?_) (fun b3 => ?_) | refine WPo_gardT (fun b3 => ?_) (fun b3 => ?_)) <;> (try simp only [Bool.not_eq_true', Bool.not_eq_false'] at b3))
        ·have b3' := b3
         simp only [decide_eq_true_eq] at b3'
         have hin : i < n := by omega
         have hai : a + 3 ≤ p.length := by
          have := Nat.mul_le_mul_left 3 (show i + 1 ≤ n from hin)
          omega
         obtain ⟨u5, hu5, su5, bu5⟩ := cut_from fc_sl_37 (su.ext x') .i64 (a : Int) a rfl (by omega)
         have hgot5 : EF Tryz.prog O0 48 [u5, .int .i64 2] h' = some (.int .i64 (readN ((p.drop a).take 2)), h') := got_ev _ u5 2 h' su5 (by rw [List.length_drop]; omega) (by decide) (by rw [List.length_drop]; omega)
         obtain ⟨B', o', c', e, _, r5⟩ := rd_byte (su.ext x') (i := a + 2) (by omega)
         cases e
         have r5' : rdc1 (h'.get B) (o + (a + 2) * 1) = some (.int .u8 (bN p (a + 2))) := by rw [Nat.mul_one]; exact r5
         have hix : ((a : Int) + 2).toNat = a + 2 := by omega
         have hw5 : wrapF .i64 (bN p (a + 2) : Int) = bN p (a + 2) := wrap64 (by have := bN_lt p (a + 2); omega)
         simp (disch := first|exact dis|fail) only [go_sem, Int.reduceToNat, Nat.reduceMul, Nat.reduceAdd, Nat.reduceSub, k4, k6, k7, k9, k11, k14, k15, k16]
         rw [EU_bad _ _ rfl, EC_tab (tab := [(false, none), (false, none), (false, none), (false, none), (true, none), (false, none), (false, none), (false, none), (false, none), (false, none), (false, (some (0, 2))), (false, none), (false, none), (true, none), (true, none)]) (by kernel_rfl)]
         simp (disch := first|exact dis|fail) only [go_sem, Int.reduceToNat, Nat.reduceMul, Nat.reduceAdd, Nat.reduceSub, ↓EU_rg, dec_t, dec_f, k4, k6, k7, k9, k11, k14, k15, k16, hu5, hgot5, r5', hix, hw5, hcB]
         skip
         have hit : decIt 1 (p.drop a) = ⟨readN ((p.drop a).take 2), bN p (a + 2), (0 : Int)⟩ := by
          unfold decIt
          rw [bN_drop, List.drop_drop]
          rfl
         have hsn := decVs_snoc 1 i (p.drop 5)
         rw [List.drop_drop, show 5 + szV 1 * i = a from by rw [ha]; rfl, hit] at hsn
         repeat refine WPo_ob ?_
         have hlit := OW.lit itemE_len h' [(⟨readN ((p.drop a).take 2), bN p (a + 2), (0 : Int)⟩ : Item)]
         have hlit' := OW.lit itemE_len (h'.push (.cells (itemE (⟨readN ((p.drop a).take 2), bN p (a + 2), (0 : Int)⟩ : Item)) 0)) [(⟨readN ((p.drop a).take 2), bN p (a + 2), (0 : Int)⟩ : Item)]
         rw [List.flatMap_cons, List.flatMap_nil, List.append_nil] at hlit hlit'
         unfold itemE at hlit hlit'
         have hm1 : ∀ j, blkOf v j → h1.next ≤ j := fun j hj => by have := hfv j hj; omega
         refine append_gr (l := decVs 1 i (p.drop 5)) (l' := [(⟨readN ((p.drop a).take 2), bN p (a + 2), (0 : Int)⟩ : Item)]) fc_ap_50_50 itemE_len (by decide) itemE_scal (hov.ext (((Ext.refl h').push _).push _)) hlit'.sl (by rw [decVs_len]; simp only [List.length_cons, List.length_nil]; omega) (by rw [decVs_len]; simp only [List.length_cons, List.length_nil]; omega) fun v' h'' hov' gr => ?_
         rw [← hsn] at hov'
         have hnv : ¬ blkOf v h1.next := fun q => by have := hfv _ q; omega
         have hcB' : h''.get h1.next = .cells [.int .i64 cur, v] 0 := by rw [gr.old _ (by rw [next_push, next_push]; omega) hnv, get_push_old _ (by rw [next_push]; omega), get_push_old _ hlt]; exact hcB
         have hn' := gr.le
         rw [next_push, next_push] at hn'
         have hfv' : Fresh (h1.next + 1) v' := gr.fresh hfv (by rw [next_push, next_push]; omega)
         obtain ⟨av, kv, rfl⟩ := hov'.val
         rw [decVs_len] at hov' hfv' gr
         simp (disch := first|exact dis|fail) only [go_sem, Int.reduceToNat, Nat.reduceMul, Nat.reduceAdd, Nat.reduceSub, ↓EU_rg, k4, k6, k7, k9, k11, k14, k15, k16, hcB', decVs_len]
         have hm2 : Mod (fun j => h1.next ≤ j) h' (h''.set h1.next (.cells [.int .i64 cur, .slice av (i + 1) kv] 0)) := (((((Mod.refl _ h').push _).push _).trans (gr.mod.mono fun j _ hj => hm1 j hj))).set _ _ fun _ => Nat.le_refl _
         refine ⟨_, by omega, i + 1, a + 3, _, _, _, rfl, rfl, by omega, by omega, by simp (disch := first|exact dis|fail) only [go_sem, Int.reduceToNat, Nat.reduceMul, Nat.reduceAdd, Nat.reduceSub, ↓EU_rg, k4], by simp (disch := first|exact dis|fail) only [go_sem, Int.reduceToNat, Nat.reduceMul, Nat.reduceAdd, Nat.reduceSub, ↓EU_rg, k6], by simp (disch := first|exact dis|fail) only [go_sem, Int.reduceToNat, Nat.reduceMul, Nat.reduceAdd, Nat.reduceSub, ↓EU_rg, k7], by simp (disch := first|exact dis|fail) only [go_sem, Int.reduceToNat, Nat.reduceMul, Nat.reduceAdd, Nat.reduceSub, ↓EU_rg, k9], by simp (disch := first|exact dis|fail) only [go_sem, Int.reduceToNat, Nat.reduceMul, Nat.reduceAdd, Nat.reduceSub, ↓EU_rg, k11], by simp (disch := first|exact dis|fail) only [go_sem, Int.reduceToNat, Nat.reduceMul, Nat.reduceAdd, Nat.reduceSub, ↓EU_rg, k14], by simp (disch := first|exact dis|fail) only [go_sem, Int.reduceToNat, Nat.reduceMul, Nat.reduceAdd, Nat.reduceSub, ↓EU_rg, k15], by simp (disch := first|exact dis|fail) only [go_sem, Int.reduceToNat, Nat.reduceMul, Nat.reduceAdd, Nat.reduceSub, ↓EU_rg]; exact congrArg (Value.int .i64) (by omega), by simp (disch := first|exact dis|fail) only [go_sem, Int.reduceToNat, Nat.reduceMul, Nat.reduceAdd, Nat.reduceSub, ↓EU_rg], hov'.mod (Mod.set (S := fun j => j = h1.next) (Mod.refl _ _) _ _ (fun _ => rfl)) (fun j hj q => by have := hfv' j hj; omega), hfv', ?_, by rw [next_set]; omega⟩
         exact ⟨Nat.le_trans x'.le hm2.le, fun j hj => (hm2.old j (Nat.lt_of_lt_of_le hj x'.le) (by omega)).trans (x'.old j hj)⟩
        ·have b3' := b3
         simp only [decide_eq_false_iff_not] at b3'
         have : i = n := by omega
         subst this
         simp (disch := first|exact dis|fail) only [go_sem, Int.reduceToNat, Nat.reduceMul, Nat.reduceAdd, Nat.reduceSub, ↓EU_rg]
         exact ⟨_, _, v, rfl, trivial, by simp (disch := first|exact dis|fail) only [go_sem, Int.reduceToNat, Nat.reduceMul, Nat.reduceAdd, Nat.reduceSub, ↓EU_rg, k4], by simp (disch := first|exact dis|fail) only [go_sem, Int.reduceToNat, Nat.reduceMul, Nat.reduceAdd, Nat.reduceSub, ↓EU_rg, k6], by simp (disch := first|exact dis|fail) only [go_sem, Int.reduceToNat, Nat.reduceMul, Nat.reduceAdd, Nat.reduceSub, ↓EU_rg, k7], by simp (disch := first|exact dis|fail) only [go_sem, Int.reduceToNat, Nat.reduceMul, Nat.reduceAdd, Nat.reduceSub, ↓EU_rg, k9], by simp (disch := first|exact dis|fail) only [go_sem, Int.reduceToNat, Nat.reduceMul, Nat.reduceAdd, Nat.reduceSub, ↓EU_rg, k15], hcB, hov, hfv, x', hlt⟩
       ·refine ⟨0, 5, _, _, _, rfl, rfl, by omega, rfl, by simp (disch := first|exact dis|fail) only [go_sem, Int.reduceToNat, Nat.reduceMul, Nat.reduceAdd, Nat.reduceSub, ↓EU_rg], by simp (disch := first|exact dis|fail) only [go_sem, Int.reduceToNat, Nat.reduceMul, Nat.reduceAdd, Nat.reduceSub, ↓EU_rg], by simp (disch := first|exact dis|fail) only [go_sem, Int.reduceToNat, Nat.reduceMul, Nat.reduceAdd, Nat.reduceSub, ↓EU_rg], by simp (disch := first|exact dis|fail) only [go_sem, Int.reduceToNat, Nat.reduceMul, Nat.reduceAdd, Nat.reduceSub, ↓EU_rg], by simp (disch := first|exact dis|fail) only [go_sem, Int.reduceToNat, Nat.reduceMul, Nat.reduceAdd, Nat.reduceSub, ↓EU_rg], by simp (disch := first|exact dis|fail) only [go_sem, Int.reduceToNat, Nat.reduceMul, Nat.reduceAdd, Nat.reduceSub, ↓EU_rg], by simp (disch := first|exact dis|fail) only [go_sem, Int.reduceToNat, Nat.reduceMul, Nat.reduceAdd, Nat.reduceSub, ↓EU_rg], by simp (disch := first|exact dis|fail) only [go_sem, Int.reduceToNat, Nat.reduceMul, Nat.reduceAdd, Nat.reduceSub, ↓EU_rg]; all_goals rfl, get_push_new _ _, OW.nil, Fresh.nil _ _ _, (Ext.refl _).push _, by rw [next_push]; omega⟩
       ·omega
       ·rintro ⟨q, _⟩ ⟨tm, h', v, rfl, rfl, k4, k6, k7, k9, k15, hcB, hov, hfv, x', hlt⟩
        obtain ⟨B', o', c', e, _, r3⟩ := rd_byte (su.ext x') (i := 3) (by omega)
        cases e
        have hlt3 := bN_lt p 3
        have hw3 : wrapF .i64 (bN p 3 : Int) = bN p 3 := wrap64 (by omega)
        have c0' : h'.get h.next = .cells [.int .i64 0, .slice none 0 1] 0 := by rw [x'.old _ (by omega)]; exact c0
        have c1' : h'.get (h.next + 1) = .cells [.int .i64 0, .slice none 0 1] 0 := by rw [x'.old _ (by omega)]; exact c1
        have y' : Ext h h' := y1.trans x'
        have hn' := x'.le
        simp (disch := first|exact dis|fail) only [go_sem, Int.reduceToNat, Nat.reduceMul, Nat.reduceAdd, Nat.reduceSub, ↓EU_rg, dec_t, dec_f, k4, k6, k7, k9, k15, hcB, r3]
        ((repeat refine WPo_ob ?_); (first | refine WPo_cond (fun b5 => ?_) (fun b5 => ?_) | refine WPo_gard (fun b5 => ?_) (fun b5 => ?_) | refine WPo_gardT (fun b5 => ?_) (fun b5 => ?_)) <;> (try simp only [Bool.not_eq_true', Bool.not_eq_false'] at b5))
        ·have b5' := b5
         simp only [decide_eq_false_iff_not] at b5'
         rw [decide_eq_true (by omega : bN p 3 ≤ 2), Bool.true_and] at hBV
         simp (disch := first|exact dis|fail) only [go_sem, Int.reduceToNat, Nat.reduceMul, Nat.reduceAdd, Nat.reduceSub, ↓EU_rg, dec_t, dec_f, k4, k6, k7, k9, k15, hcB, r3, b5]
         repeat refine WPo_ob ?_
         have hGd := rgood_ev cur _ v h' hov.sl (by rw [decVs_len]; omega)
         obtain ⟨av, kv, rfl⟩ := hov.val
         unfold formV at hGd
         refine hGd.bind fun h'' x'' => ?_
         have hcB'' : h''.get h1.next = .cells [.int .i64 cur, .slice av (decVs 1 n (p.drop 5)).length kv] 0 := by rw [x''.old _ hlt]; exact hcB
         have c0'' : h''.get h.next = .cells [.int .i64 0, .slice none 0 1] 0 := by rw [x''.old _ (by omega)]; exact c0'
         have c1'' : h''.get (h.next + 1) = .cells [.int .i64 0, .slice none 0 1] 0 := by rw [x''.old _ (by omega)]; exact c1'
         have r3'' : rdc1 (h''.get B) (o + 3) = some (.int .u8 (bN p 3)) := by rw [x''.old _ (by omega)]; exact r3
         have hn'' := x''.le
         simp (disch := first|exact dis|fail) only [go_sem, Int.reduceToNat, Nat.reduceMul, Nat.reduceAdd, Nat.reduceSub, ↓EU_rg, dec_t, dec_f, k4, k6, k7, k9, k15, hcB'', c0'', c1'', r3'']
         ((repeat refine WPo_ob ?_); (first | refine WPo_cond (fun b6 => ?_) (fun b6 => ?_) | refine WPo_gard (fun b6 => ?_) (fun b6 => ?_) | refine WPo_gardT (fun b6 => ?_) (fun b6 => ?_)) <;> (try simp only [Bool.not_eq_true', Bool.not_eq_false'] at b6))
         ·rw [b6, if_neg (by simp)] at hBV
          rw [hBV]
          simp (disch := first|exact dis|fail) only [go_sem, Int.reduceToNat, Nat.reduceMul, Nat.reduceAdd, Nat.reduceSub, ↓EU_rg, dec_t, dec_f, b6, k4, k6, k7, k9, k15, hcB'', c0'', c1'', r3'']
          exact ⟨_, rfl, OW.nil, Fresh.nil _ _ _, (y'.trans x'').set _ _ (Nat.le_refl _)⟩
         ·rw [b6, if_pos rfl] at hBV
          rw [hBV]
          simp (disch := first|exact dis|fail) only [go_sem, Int.reduceToNat, Nat.reduceMul, Nat.reduceAdd, Nat.reduceSub, ↓EU_rg, dec_t, dec_f, b6, k4, k6, k7, k9, k15, hcB'', c0'', c1'', r3'', hw3]
          exact ⟨_, rfl, (hov.ext x'').mod (Mod.set (S := fun j => j = h.next) (Mod.refl _ _) _ _ (fun _ => rfl)) (fun j hj q => by have := hfv j hj; omega), hfv.mono (by omega), (y'.trans x'').set _ _ (Nat.le_refl _)⟩
        ·have b5' := b5
         simp only [decide_eq_true_eq] at b5'
         rw [decide_eq_false (by omega : ¬ bN p 3 ≤ 2), Bool.false_and, if_neg (by simp)] at hBV
         rw [hBV]
         simp (disch := first|exact dis|fail) only [go_sem, Int.reduceToNat, Nat.reduceMul, Nat.reduceAdd, Nat.reduceSub, ↓EU_rg, dec_t, dec_f, b5, k4, k6, k7, k9, k15, hcB, c0', c1', r3]
         exact ⟨_, rfl, OW.nil, Fresh.nil _ _ _, y'.set _ _ (Nat.le_refl _)⟩
     ·have b1' := b1
      simp only [decide_eq_true_eq] at b1'
      rw [if_pos (.inl (by omega))] at hBV
      rw [hBV]
      simp (disch := first|exact dis|fail) only [go_sem, Int.reduceToNat, Nat.reduceMul, Nat.reduceAdd, Nat.reduceSub, ↓EU_rg, dec_t, dec_f, b1, c0, c1]
      exact ⟨_, rfl, OW.nil, Fresh.nil _ _ _, y1.set _ _ (Nat.le_refl _)⟩
    ·skip
     have hBV : bodyV ((2 : Nat) : Int) p = (if p.length < 7 ∨ p.length ≠ 7 + 7 * bN p 6 then (0, 0, [], 8) else if decide (bN p 3 ≤ 2) && goodF (curV 2 p) (decVs 2 (bN p 6) (p.drop 7)) then ((bN p 3 : Int), curV 2 p, decVs 2 (bN p 6) (p.drop 7), 0) else (0, 0, [], 11)) := rfl
     simp (disch := first|exact dis|fail) only [go_sem, Int.reduceToNat, Nat.reduceMul, Nat.reduceAdd, Nat.reduceSub, ↓EU_rg, dec_t, dec_f, hd, r0, r1, r2, hw2, Int.reduceAdd, Int.reduceSub, Int.reduceMul]
     ((repeat refine WPo_ob ?_); (first | refine WPo_cond (fun b1 => ?_) (fun b1 => ?_) | refine WPo_gard (fun b1 => ?_) (fun b1 => ?_) | refine WPo_gardT (fun b1 => ?_) (fun b1 => ?_)) <;> (try simp only [Bool.not_eq_true', Bool.not_eq_false'] at b1))
     ·have b1' := b1
      simp only [decide_eq_false_iff_not] at b1'
      obtain ⟨B', o', c', e, _, r7⟩ := rd_byte su (i := 6) (by omega)
      cases e
      have hlt7 := bN_lt p 6
      have hw7 : wrapF .i64 (bN p 6 : Int) = bN p 6 := wrap64 (by omega)
      simp (disch := first|exact dis|fail) only [go_sem, Int.reduceToNat, Nat.reduceMul, Nat.reduceAdd, Nat.reduceSub, ↓EU_rg, dec_t, dec_f, b1, r7, hw7, Int.reduceAdd, Int.reduceSub, Int.reduceMul]
      ((repeat refine WPo_ob ?_); (first | refine WPo_cond (fun b2 => ?_) (fun b2 => ?_) | refine WPo_gard (fun b2 => ?_) (fun b2 => ?_) | refine WPo_gardT (fun b2 => ?_) (fun b2 => ?_)) <;> (try simp only [Bool.not_eq_true', Bool.not_eq_false'] at b2))
      ·have b2' := b2
       simp only [decide_eq_false_iff_not] at b2'
       rw [if_pos (.inr (by omega))] at hBV
       rw [hBV]
       simp (disch := first|exact dis|fail) only [go_sem, Int.reduceToNat, Nat.reduceMul, Nat.reduceAdd, Nat.reduceSub, ↓EU_rg, dec_t, dec_f, b2, c0, c1]
       exact ⟨_, rfl, OW.nil, Fresh.nil _ _ _, y1.set _ _ (Nat.le_refl _)⟩
      ·have b2' := b2
       simp only [decide_eq_true_eq] at b2'
       rw [if_neg (by omega)] at hBV
       have hpn : p.length = 7 + 7 * bN p 6 := by omega
       generalize hn : bN p 6 = n at *
       obtain ⟨u4, hu4, su4, bu4⟩ := cut_from fc_sl_37 (su.ext ((Ext.refl h1).push (.cells [.int .i64 (-1), .slice none 0 1] 0))) .i64 4 4 rfl (by omega)
       have hgot : EF Tryz.prog O0 48 [u4, .int .i64 2] (h1.push (.cells [.int .i64 (-1), .slice none 0 1] 0)) = some (.int .i64 (readN ((p.drop 4).take 2)), h1.push (.cells [.int .i64 (-1), .slice none 0 1] 0)) := got_ev _ u4 2 _ su4 (by rw [List.length_drop]; omega) (by decide) (by rw [List.length_drop]; omega)
       have hcp := readN_pos (l := (p.drop 4).take 2) (by rw [List.length_take]; omega)
       have hcu : curV 2 p = readN ((p.drop 4).take 2) - 1 := rfl
       have hcw : wrapF .i64 (readN ((p.drop 4).take 2) - 1) = curV 2 p := by rw [hcu]; exact wrap64 (by omega)
       simp (disch := first|exact dis|fail) only [go_sem, Int.reduceToNat, Nat.reduceMul, Nat.reduceAdd, Nat.reduceSub, ↓EU_rg, dec_t, dec_f, hu4, hgot, hcw, Int.reduceAdd, Int.reduceSub, Int.reduceMul]
       generalize curV 2 p = cur at *
       repeat refine WPo_ob ?_
       refine (LP_rule (fun m st => ∃ (i a : Nat) (tm : Fr) (h' : Heap) (v : Value), st = ⟨tm, h', []⟩ ∧ m = n - i ∧ i ≤ n ∧ a = 7 + 7 * i ∧ Fr.get tm 4 = ptr h.next 0 ∧ Fr.get tm 6 = ptr (h.next + 1) 0 ∧ Fr.get tm 7 = .slice (some ⟨B, o, none⟩) p.length ku ∧ Fr.get tm 9 = .int .i64 ((2 : Nat) : Int) ∧ Fr.get tm 11 = .int .i64 2 ∧ Fr.get tm 14 = .int .i64 7 ∧ Fr.get tm 15 = ptr h1.next 0 ∧ Fr.get tm 16 = .int .i64 a ∧ h'.get h1.next = .cells [.int .i64 cur, v] 0 ∧ OW itemE 3 h' v (decVs 2 i (p.drop 7)) ∧ Fresh (h1.next + 1) v ∧ Ext h1 h' ∧ h1.next < h'.next)
        (fun q => ∃ tm h' v, q.2 = ⟨tm, h', []⟩ ∧ q.1 = .exit 1 ∧ Fr.get tm 4 = ptr h.next 0 ∧ Fr.get tm 6 = ptr (h.next + 1) 0 ∧ Fr.get tm 7 = .slice (some ⟨B, o, none⟩) p.length ku ∧ Fr.get tm 9 = .int .i64 ((2 : Nat) : Int) ∧ Fr.get tm 15 = ptr h1.next 0 ∧ h'.get h1.next = .cells [.int .i64 cur, v] 0 ∧ OW itemE 3 h' v (decVs 2 n (p.drop 7)) ∧ Fresh (h1.next + 1) v ∧ Ext h1 h' ∧ h1.next < h'.next) ?_ n _ _ ?_ ?_).mono ?_
       ·rintro m _ ⟨i, a, tm, h', v, rfl, rfl, hi, ha, k4, k6, k7, k9, k11, k14, k15, k16, hcB, hov, hfv, x', hlt⟩
        simp (disch := first|exact dis|fail) only [go_sem, Int.reduceToNat, Nat.reduceMul, Nat.reduceAdd, Nat.reduceSub, ↓EU_rg, k4, k6, k7, k9, k11, k14, k15, k16]
        ((repeat refine WPo_ob ?_); (first | refine WPo_cond (fun b3 => ?_) (fun b3 => ?_) | refine WPo_gard (fun b3 => ?_) (fun b3 => ?_) | refine WPo_gardT (fun b3 => ?_) (fun b3 => ?_)) <;> (try simp only [Bool.not_eq_true', Bool.not_eq_false'] at b3))
        ·have b3' := b3
         simp only [decide_eq_true_eq] at b3'
         have hin : i < n := by omega
         have hai : a + 7 ≤ p.length := by
          have := Nat.mul_le_mul_left 7 (show i + 1 ≤ n from hin)
          omega
         obtain ⟨u5, hu5, su5, bu5⟩ := cut_from fc_sl_37 (su.ext x') .i64 (a : Int) a rfl (by omega)
         have hgot5 : EF Tryz.prog O0 48 [u5, .int .i64 2] h' = some (.int .i64 (readN ((p.drop a).take 2)), h') := got_ev _ u5 2 h' su5 (by rw [List.length_drop]; omega) (by decide) (by rw [List.length_drop]; omega)
         obtain ⟨B', o', c', e, _, r5⟩ := rd_byte (su.ext x') (i := a + 2) (by omega)
         cases e
         have r5' : rdc1 (h'.get B) (o + (a + 2) * 1) = some (.int .u8 (bN p (a + 2))) := by rw [Nat.mul_one]; exact r5
         have hix : ((a : Int) + 2).toNat = a + 2 := by omega
         have hw5 : wrapF .i64 (bN p (a + 2) : Int) = bN p (a + 2) := wrap64 (by have := bN_lt p (a + 2); omega)
         simp (disch := first|exact dis|fail) only [go_sem, Int.reduceToNat, Nat.reduceMul, Nat.reduceAdd, Nat.reduceSub, k4, k6, k7, k9, k11, k14, k15, k16]
         rw [EU_bad _ _ rfl, EC_tab (tab := [(false, none), (false, none), (false, none), (false, none), (true, none), (false, none), (false, none), (false, none), (false, none), (false, none), (false, (some (0, 2))), (false, none), (false, none), (true, none), (true, none)]) (by kernel_rfl)]
         simp (disch := first|exact dis|fail) only [go_sem, Int.reduceToNat, Nat.reduceMul, Nat.reduceAdd, Nat.reduceSub, ↓EU_rg, dec_t, dec_f, k4, k6, k7, k9, k11, k14, k15, k16, hu5, hgot5, r5', hix, hw5, hcB]
         obtain ⟨u6, hu6, su6, bu6⟩ := cut_from fc_sl_37 (su.ext (x'.push (.cells [.int .i64 (readN ((p.drop a).take 2)), .int .i64 (bN p (a + 2)), .int .i64 0] 0))) .i64 ((a : Int) + 2 + 1) (a + 2 + 1) (by omega) (by omega)
         have hgot6 : EF Tryz.prog O0 48 [u6, .int .i64 4] (h'.push (.cells [.int .i64 (readN ((p.drop a).take 2)), .int .i64 (bN p (a + 2)), .int .i64 0] 0)) = some (.int .i64 (readN ((p.drop (a + 2 + 1)).take 4)), (h'.push (.cells [.int .i64 (readN ((p.drop a).take 2)), .int .i64 (bN p (a + 2)), .int .i64 0] 0))) := got_ev _ u6 4 _ su6 (by rw [List.length_drop]; omega) (by decide) (by rw [List.length_drop]; omega)
         have hr4 := readN_pos (l := (p.drop (a + 2 + 1)).take 4) (by rw [List.length_take]; omega)
         have hwu : wrapF .u32 (readN ((p.drop (a + 2 + 1)).take 4)) = readN ((p.drop (a + 2 + 1)).take 4) := wrapU rfl ⟨hr4.1, hr4.2⟩
         have hi4 := wrap_i32 (readN ((p.drop (a + 2 + 1)).take 4))
         have hwl : wrapF .i64 (wrapF .i32 (readN ((p.drop (a + 2 + 1)).take 4))) = wrapF .i32 (readN ((p.drop (a + 2 + 1)).take 4)) := wrap64 (by omega)
         have hwm : wrapF .i64 (wrapF .i32 (readN ((p.drop (a + 2 + 1)).take 4)) * 232792560) = wrapF .i32 (readN ((p.drop (a + 2 + 1)).take 4)) * 232792560 := wrap64 (by omega)
         simp (disch := first|exact dis|fail) only [go_sem, Int.reduceToNat, Nat.reduceMul, Nat.reduceAdd, Nat.reduceSub, ↓EU_rg, dec_t, dec_f, k4, k6, k7, k9, k11, k14, k15, k16, hcB, hu6, hgot6, hwu, hwl, hwm]
         have hit : decIt 2 (p.drop a) = ⟨readN ((p.drop a).take 2), bN p (a + 2), (wrapF .i32 (readN ((p.drop (a + 2 + 1)).take 4)) * 232792560)⟩ := by
          unfold decIt
          rw [bN_drop, List.drop_drop]
          rfl
         have hsn := decVs_snoc 2 i (p.drop 7)
         rw [List.drop_drop, show 7 + szV 2 * i = a from by rw [ha]; rfl, hit] at hsn
         repeat refine WPo_ob ?_
         have hlit := OW.lit itemE_len h' [(⟨readN ((p.drop a).take 2), bN p (a + 2), (wrapF .i32 (readN ((p.drop (a + 2 + 1)).take 4)) * 232792560)⟩ : Item)]
         have hlit' := OW.lit itemE_len (h'.push (.cells (itemE (⟨readN ((p.drop a).take 2), bN p (a + 2), (wrapF .i32 (readN ((p.drop (a + 2 + 1)).take 4)) * 232792560)⟩ : Item)) 0)) [(⟨readN ((p.drop a).take 2), bN p (a + 2), (wrapF .i32 (readN ((p.drop (a + 2 + 1)).take 4)) * 232792560)⟩ : Item)]
         rw [List.flatMap_cons, List.flatMap_nil, List.append_nil] at hlit hlit'
         unfold itemE at hlit hlit'
         have hm1 : ∀ j, blkOf v j → h1.next ≤ j := fun j hj => by have := hfv j hj; omega
         refine append_gr (l := decVs 2 i (p.drop 7)) (l' := [(⟨readN ((p.drop a).take 2), bN p (a + 2), (wrapF .i32 (readN ((p.drop (a + 2 + 1)).take 4)) * 232792560)⟩ : Item)]) fc_ap_50_50 itemE_len (by decide) itemE_scal (hov.ext (((Ext.refl h').push _).push _)) hlit'.sl (by rw [decVs_len]; simp only [List.length_cons, List.length_nil]; omega) (by rw [decVs_len]; simp only [List.length_cons, List.length_nil]; omega) fun v' h'' hov' gr => ?_
         rw [← hsn] at hov'
         have hnv : ¬ blkOf v h1.next := fun q => by have := hfv _ q; omega
         have hcB' : h''.get h1.next = .cells [.int .i64 cur, v] 0 := by rw [gr.old _ (by rw [next_push, next_push]; omega) hnv, get_push_old _ (by rw [next_push]; omega), get_push_old _ hlt]; exact hcB
         have hn' := gr.le
         rw [next_push, next_push] at hn'
         have hfv' : Fresh (h1.next + 1) v' := gr.fresh hfv (by rw [next_push, next_push]; omega)
         obtain ⟨av, kv, rfl⟩ := hov'.val
         rw [decVs_len] at hov' hfv' gr
         simp (disch := first|exact dis|fail) only [go_sem, Int.reduceToNat, Nat.reduceMul, Nat.reduceAdd, Nat.reduceSub, ↓EU_rg, k4, k6, k7, k9, k11, k14, k15, k16, hcB', decVs_len]
         have hm2 : Mod (fun j => h1.next ≤ j) h' (h''.set h1.next (.cells [.int .i64 cur, .slice av (i + 1) kv] 0)) := (((((Mod.refl _ h').push _).push _).trans (gr.mod.mono fun j _ hj => hm1 j hj))).set _ _ fun _ => Nat.le_refl _
         refine ⟨_, by omega, i + 1, a + 7, _, _, _, rfl, rfl, by omega, by omega, by simp (disch := first|exact dis|fail) only [go_sem, Int.reduceToNat, Nat.reduceMul, Nat.reduceAdd, Nat.reduceSub, ↓EU_rg, k4], by simp (disch := first|exact dis|fail) only [go_sem, Int.reduceToNat, Nat.reduceMul, Nat.reduceAdd, Nat.reduceSub, ↓EU_rg, k6], by simp (disch := first|exact dis|fail) only [go_sem, Int.reduceToNat, Nat.reduceMul, Nat.reduceAdd, Nat.reduceSub, ↓EU_rg, k7], by simp (disch := first|exact dis|fail) only [go_sem, Int.reduceToNat, Nat.reduceMul, Nat.reduceAdd, Nat.reduceSub, ↓EU_rg, k9], by simp (disch := first|exact dis|fail) only [go_sem, Int.reduceToNat, Nat.reduceMul, Nat.reduceAdd, Nat.reduceSub, ↓EU_rg, k11], by simp (disch := first|exact dis|fail) only [go_sem, Int.reduceToNat, Nat.reduceMul, Nat.reduceAdd, Nat.reduceSub, ↓EU_rg, k14], by simp (disch := first|exact dis|fail) only [go_sem, Int.reduceToNat, Nat.reduceMul, Nat.reduceAdd, Nat.reduceSub, ↓EU_rg, k15], by simp (disch := first|exact dis|fail) only [go_sem, Int.reduceToNat, Nat.reduceMul, Nat.reduceAdd, Nat.reduceSub, ↓EU_rg]; exact congrArg (Value.int .i64) (by omega), by simp (disch := first|exact dis|fail) only [go_sem, Int.reduceToNat, Nat.reduceMul, Nat.reduceAdd, Nat.reduceSub, ↓EU_rg], hov'.mod (Mod.set (S := fun j => j = h1.next) (Mod.refl _ _) _ _ (fun _ => rfl)) (fun j hj q => by have := hfv' j hj; omega), hfv', ?_, by rw [next_set]; omega⟩
         exact ⟨Nat.le_trans x'.le hm2.le, fun j hj => (hm2.old j (Nat.lt_of_lt_of_le hj x'.le) (by omega)).trans (x'.old j hj)⟩
        ·have b3' := b3
         simp only [decide_eq_false_iff_not] at b3'
         have : i = n := by omega
         subst this
         simp (disch := first|exact dis|fail) only [go_sem, Int.reduceToNat, Nat.reduceMul, Nat.reduceAdd, Nat.reduceSub, ↓EU_rg]
         exact ⟨_, _, v, rfl, trivial, by simp (disch := first|exact dis|fail) only [go_sem, Int.reduceToNat, Nat.reduceMul, Nat.reduceAdd, Nat.reduceSub, ↓EU_rg, k4], by simp (disch := first|exact dis|fail) only [go_sem, Int.reduceToNat, Nat.reduceMul, Nat.reduceAdd, Nat.reduceSub, ↓EU_rg, k6], by simp (disch := first|exact dis|fail) only [go_sem, Int.reduceToNat, Nat.reduceMul, Nat.reduceAdd, Nat.reduceSub, ↓EU_rg, k7], by simp (disch := first|exact dis|fail) only [go_sem, Int.reduceToNat, Nat.reduceMul, Nat.reduceAdd, Nat.reduceSub, ↓EU_rg, k9], by simp (disch := first|exact dis|fail) only [go_sem, Int.reduceToNat, Nat.reduceMul, Nat.reduceAdd, Nat.reduceSub, ↓EU_rg, k15], hcB, hov, hfv, x', hlt⟩
       ·refine ⟨0, 7, _, _, _, rfl, rfl, by omega, rfl, by simp (disch := first|exact dis|fail) only [go_sem, Int.reduceToNat, Nat.reduceMul, Nat.reduceAdd, Nat.reduceSub, ↓EU_rg], by simp (disch := first|exact dis|fail) only [go_sem, Int.reduceToNat, Nat.reduceMul, Nat.reduceAdd, Nat.reduceSub, ↓EU_rg], by simp (disch := first|exact dis|fail) only [go_sem, Int.reduceToNat, Nat.reduceMul, Nat.reduceAdd, Nat.reduceSub, ↓EU_rg], by simp (disch := first|exact dis|fail) only [go_sem, Int.reduceToNat, Nat.reduceMul, Nat.reduceAdd, Nat.reduceSub, ↓EU_rg], by simp (disch := first|exact dis|fail) only [go_sem, Int.reduceToNat, Nat.reduceMul, Nat.reduceAdd, Nat.reduceSub, ↓EU_rg], by simp (disch := first|exact dis|fail) only [go_sem, Int.reduceToNat, Nat.reduceMul, Nat.reduceAdd, Nat.reduceSub, ↓EU_rg], by simp (disch := first|exact dis|fail) only [go_sem, Int.reduceToNat, Nat.reduceMul, Nat.reduceAdd, Nat.reduceSub, ↓EU_rg], by simp (disch := first|exact dis|fail) only [go_sem, Int.reduceToNat, Nat.reduceMul, Nat.reduceAdd, Nat.reduceSub, ↓EU_rg]; all_goals rfl, get_push_new _ _, OW.nil, Fresh.nil _ _ _, (Ext.refl _).push _, by rw [next_push]; omega⟩
       ·omega
       ·rintro ⟨q, _⟩ ⟨tm, h', v, rfl, rfl, k4, k6, k7, k9, k15, hcB, hov, hfv, x', hlt⟩
        obtain ⟨B', o', c', e, _, r3⟩ := rd_byte (su.ext x') (i := 3) (by omega)
        cases e
        have hlt3 := bN_lt p 3
        have hw3 : wrapF .i64 (bN p 3 : Int) = bN p 3 := wrap64 (by omega)
        have c0' : h'.get h.next = .cells [.int .i64 0, .slice none 0 1] 0 := by rw [x'.old _ (by omega)]; exact c0
        have c1' : h'.get (h.next + 1) = .cells [.int .i64 0, .slice none 0 1] 0 := by rw [x'.old _ (by omega)]; exact c1
        have y' : Ext h h' := y1.trans x'
        have hn' := x'.le
        simp (disch := first|exact dis|fail) only [go_sem, Int.reduceToNat, Nat.reduceMul, Nat.reduceAdd, Nat.reduceSub, ↓EU_rg, dec_t, dec_f, k4, k6, k7, k9, k15, hcB, r3]
        ((repeat refine WPo_ob ?_); (first | refine WPo_cond (fun b5 => ?_) (fun b5 => ?_) | refine WPo_gard (fun b5 => ?_) (fun b5 => ?_) | refine WPo_gardT (fun b5 => ?_) (fun b5 => ?_)) <;> (try simp only [Bool.not_eq_true', Bool.not_eq_false'] at b5))
        ·have b5' := b5
         simp only [decide_eq_false_iff_not] at b5'
         rw [decide_eq_true (by omega : bN p 3 ≤ 2), Bool.true_and] at hBV
         simp (disch := first|exact dis|fail) only [go_sem, Int.reduceToNat, Nat.reduceMul, Nat.reduceAdd, Nat.reduceSub, ↓EU_rg, dec_t, dec_f, k4, k6, k7, k9, k15, hcB, r3, b5]
         repeat refine WPo_ob ?_
         have hGd := rgood_ev cur _ v h' hov.sl (by rw [decVs_len]; omega)
         obtain ⟨av, kv, rfl⟩ := hov.val
         unfold formV at hGd
         refine hGd.bind fun h'' x'' => ?_
         have hcB'' : h''.get h1.next = .cells [.int .i64 cur, .slice av (decVs 2 n (p.drop 7)).length kv] 0 := by rw [x''.old _ hlt]; exact hcB
         have c0'' : h''.get h.next = .cells [.int .i64 0, .slice none 0 1] 0 := by rw [x''.old _ (by omega)]; exact c0'
         have c1'' : h''.get (h.next + 1) = .cells [.int .i64 0, .slice none 0 1] 0 := by rw [x''.old _ (by omega)]; exact c1'
         have r3'' : rdc1 (h''.get B) (o + 3) = some (.int .u8 (bN p 3)) := by rw [x''.old _ (by omega)]; exact r3
         have hn'' := x''.le
         simp (disch := first|exact dis|fail) only [go_sem, Int.reduceToNat, Nat.reduceMul, Nat.reduceAdd, Nat.reduceSub, ↓EU_rg, dec_t, dec_f, k4, k6, k7, k9, k15, hcB'', c0'', c1'', r3'']
         ((repeat refine WPo_ob ?_); (first | refine WPo_cond (fun b6 => ?_) (fun b6 => ?_) | refine WPo_gard (fun b6 => ?_) (fun b6 => ?_) | refine WPo_gardT (fun b6 => ?_) (fun b6 => ?_)) <;> (try simp only [Bool.not_eq_true', Bool.not_eq_false'] at b6))
         ·rw [b6, if_neg (by simp)] at hBV
          rw [hBV]
          simp (disch := first|exact dis|fail) only [go_sem, Int.reduceToNat, Nat.reduceMul, Nat.reduceAdd, Nat.reduceSub, ↓EU_rg, dec_t, dec_f, b6, k4, k6, k7, k9, k15, hcB'', c0'', c1'', r3'']
          exact ⟨_, rfl, OW.nil, Fresh.nil _ _ _, (y'.trans x'').set _ _ (Nat.le_refl _)⟩
         ·rw [b6, if_pos rfl] at hBV
          rw [hBV]
          simp (disch := first|exact dis|fail) only [go_sem, Int.reduceToNat, Nat.reduceMul, Nat.reduceAdd, Nat.reduceSub, ↓EU_rg, dec_t, dec_f, b6, k4, k6, k7, k9, k15, hcB'', c0'', c1'', r3'', hw3]
          exact ⟨_, rfl, (hov.ext x'').mod (Mod.set (S := fun j => j = h.next) (Mod.refl _ _) _ _ (fun _ => rfl)) (fun j hj q => by have := hfv j hj; omega), hfv.mono (by omega), (y'.trans x'').set _ _ (Nat.le_refl _)⟩
        ·have b5' := b5
         simp only [decide_eq_true_eq] at b5'
         rw [decide_eq_false (by omega : ¬ bN p 3 ≤ 2), Bool.false_and, if_neg (by simp)] at hBV
         rw [hBV]
         simp (disch := first|exact dis|fail) only [go_sem, Int.reduceToNat, Nat.reduceMul, Nat.reduceAdd, Nat.reduceSub, ↓EU_rg, dec_t, dec_f, b5, k4, k6, k7, k9, k15, hcB, c0', c1', r3]
         exact ⟨_, rfl, OW.nil, Fresh.nil _ _ _, y'.set _ _ (Nat.le_refl _)⟩
     ·have b1' := b1
      simp only [decide_eq_true_eq] at b1'
      rw [if_pos (.inl (by omega))] at hBV
      rw [hBV]
      simp (disch := first|exact dis|fail) only [go_sem, Int.reduceToNat, Nat.reduceMul, Nat.reduceAdd, Nat.reduceSub, ↓EU_rg, dec_t, dec_f, b1, c0, c1]
      exact ⟨_, rfl, OW.nil, Fresh.nil _ _ _, y1.set _ _ (Nat.le_refl _)⟩
    ·skip
     have hBV : bodyV ((3 : Nat) : Int) p = (if p.length < 9 ∨ p.length ≠ 9 + 13 * bN p 8 then (0, 0, [], 8) else if decide (bN p 3 ≤ 2) && goodF (curV 3 p) (decVs 3 (bN p 8) (p.drop 9)) then ((bN p 3 : Int), curV 3 p, decVs 3 (bN p 8) (p.drop 9), 0) else (0, 0, [], 11)) := rfl
     simp (disch := first|exact dis|fail) only [go_sem, Int.reduceToNat, Nat.reduceMul, Nat.reduceAdd, Nat.reduceSub, ↓EU_rg, dec_t, dec_f, hd, r0, r1, r2, hw2, Int.reduceAdd, Int.reduceSub, Int.reduceMul]
     ((repeat refine WPo_ob ?_); (first | refine WPo_cond (fun b1 => ?_) (fun b1 => ?_) | refine WPo_gard (fun b1 => ?_) (fun b1 => ?_) | refine WPo_gardT (fun b1 => ?_) (fun b1 => ?_)) <;> (try simp only [Bool.not_eq_true', Bool.not_eq_false'] at b1))
     ·have b1' := b1
      simp only [decide_eq_false_iff_not] at b1'
      obtain ⟨B', o', c', e, _, r7⟩ := rd_byte su (i := 8) (by omega)
      cases e
      have hlt7 := bN_lt p 8
      have hw7 : wrapF .i64 (bN p 8 : Int) = bN p 8 := wrap64 (by omega)
      simp (disch := first|exact dis|fail) only [go_sem, Int.reduceToNat, Nat.reduceMul, Nat.reduceAdd, Nat.reduceSub, ↓EU_rg, dec_t, dec_f, b1, r7, hw7, Int.reduceAdd, Int.reduceSub, Int.reduceMul]
      ((repeat refine WPo_ob ?_); (first | refine WPo_cond (fun b2 => ?_) (fun b2 => ?_) | refine WPo_gard (fun b2 => ?_) (fun b2 => ?_) | refine WPo_gardT (fun b2 => ?_) (fun b2 => ?_)) <;> (try simp only [Bool.not_eq_true', Bool.not_eq_false'] at b2))
      ·have b2' := b2
       simp only [decide_eq_false_iff_not] at b2'
       rw [if_pos (.inr (by omega))] at hBV
       rw [hBV]
       simp (disch := first|exact dis|fail) only [go_sem, Int.reduceToNat, Nat.reduceMul, Nat.reduceAdd, Nat.reduceSub, ↓EU_rg, dec_t, dec_f, b2, c0, c1]
       exact ⟨_, rfl, OW.nil, Fresh.nil _ _ _, y1.set _ _ (Nat.le_refl _)⟩
      ·have b2' := b2
       simp only [decide_eq_true_eq] at b2'
       rw [if_neg (by omega)] at hBV
       have hpn : p.length = 9 + 13 * bN p 8 := by omega
       generalize hn : bN p 8 = n at *
       obtain ⟨u4, hu4, su4, bu4⟩ := cut_from fc_sl_37 (su.ext ((Ext.refl h1).push (.cells [.int .i64 (-1), .slice none 0 1] 0))) .i64 4 4 rfl (by omega)
       have hgot : EF Tryz.prog O0 48 [u4, .int .i64 4] (h1.push (.cells [.int .i64 (-1), .slice none 0 1] 0)) = some (.int .i64 (readN ((p.drop 4).take 4)), h1.push (.cells [.int .i64 (-1), .slice none 0 1] 0)) := got_ev _ u4 4 _ su4 (by rw [List.length_drop]; omega) (by decide) (by rw [List.length_drop]; omega)
       have hcp := readN_pos (l := (p.drop 4).take 4) (by rw [List.length_take]; omega)
       have hcu : curV 3 p = readN ((p.drop 4).take 4) - 1 := rfl
       have hcw : wrapF .i64 (readN ((p.drop 4).take 4) - 1) = curV 3 p := by rw [hcu]; exact wrap64 (by omega)
       simp (disch := first|exact dis|fail) only [go_sem, Int.reduceToNat, Nat.reduceMul, Nat.reduceAdd, Nat.reduceSub, ↓EU_rg, dec_t, dec_f, hu4, hgot, hcw, Int.reduceAdd, Int.reduceSub, Int.reduceMul]
       generalize curV 3 p = cur at *
       repeat refine WPo_ob ?_
       refine (LP_rule (fun m st => ∃ (i a : Nat) (tm : Fr) (h' : Heap) (v : Value), st = ⟨tm, h', []⟩ ∧ m = n - i ∧ i ≤ n ∧ a = 9 + 13 * i ∧ Fr.get tm 4 = ptr h.next 0 ∧ Fr.get tm 6 = ptr (h.next + 1) 0 ∧ Fr.get tm 7 = .slice (some ⟨B, o, none⟩) p.length ku ∧ Fr.get tm 9 = .int .i64 ((3 : Nat) : Int) ∧ Fr.get tm 11 = .int .i64 4 ∧ Fr.get tm 14 = .int .i64 13 ∧ Fr.get tm 15 = ptr h1.next 0 ∧ Fr.get tm 16 = .int .i64 a ∧ h'.get h1.next = .cells [.int .i64 cur, v] 0 ∧ OW itemE 3 h' v (decVs 3 i (p.drop 9)) ∧ Fresh (h1.next + 1) v ∧ Ext h1 h' ∧ h1.next < h'.next)
        (fun q => ∃ tm h' v, q.2 = ⟨tm, h', []⟩ ∧ q.1 = .exit 1 ∧ Fr.get tm 4 = ptr h.next 0 ∧ Fr.get tm 6 = ptr (h.next + 1) 0 ∧ Fr.get tm 7 = .slice (some ⟨B, o, none⟩) p.length ku ∧ Fr.get tm 9 = .int .i64 ((3 : Nat) : Int) ∧ Fr.get tm 15 = ptr h1.next 0 ∧ h'.get h1.next = .cells [.int .i64 cur, v] 0 ∧ OW itemE 3 h' v (decVs 3 n (p.drop 9)) ∧ Fresh (h1.next + 1) v ∧ Ext h1 h' ∧ h1.next < h'.next) ?_ n _ _ ?_ ?_).mono ?_
       ·rintro m _ ⟨i, a, tm, h', v, rfl, rfl, hi, ha, k4, k6, k7, k9, k11, k14, k15, k16, hcB, hov, hfv, x', hlt⟩
        simp (disch := first|exact dis|fail) only [go_sem, Int.reduceToNat, Nat.reduceMul, Nat.reduceAdd, Nat.reduceSub, ↓EU_rg, k4, k6, k7, k9, k11, k14, k15, k16]
        ((repeat refine WPo_ob ?_); (first | refine WPo_cond (fun b3 => ?_) (fun b3 => ?_) | refine WPo_gard (fun b3 => ?_) (fun b3 => ?_) | refine WPo_gardT (fun b3 => ?_) (fun b3 => ?_)) <;> (try simp only [Bool.not_eq_true', Bool.not_eq_false'] at b3))
        ·have b3' := b3
         simp only [decide_eq_true_eq] at b3'
         have hin : i < n := by omega
         have hai : a + 13 ≤ p.length := by
          have := Nat.mul_le_mul_left 13 (show i + 1 ≤ n from hin)
          omega
         obtain ⟨u5, hu5, su5, bu5⟩ := cut_from fc_sl_37 (su.ext x') .i64 (a : Int) a rfl (by omega)
         have hgot5 : EF Tryz.prog O0 48 [u5, .int .i64 4] h' = some (.int .i64 (readN ((p.drop a).take 4)), h') := got_ev _ u5 4 h' su5 (by rw [List.length_drop]; omega) (by decide) (by rw [List.length_drop]; omega)
         obtain ⟨B', o', c', e, _, r5⟩ := rd_byte (su.ext x') (i := a + 4) (by omega)
         cases e
         have r5' : rdc1 (h'.get B) (o + (a + 4) * 1) = some (.int .u8 (bN p (a + 4))) := by rw [Nat.mul_one]; exact r5
         have hix : ((a : Int) + 4).toNat = a + 4 := by omega
         have hw5 : wrapF .i64 (bN p (a + 4) : Int) = bN p (a + 4) := wrap64 (by have := bN_lt p (a + 4); omega)
         simp (disch := first|exact dis|fail) only [go_sem, Int.reduceToNat, Nat.reduceMul, Nat.reduceAdd, Nat.reduceSub, k4, k6, k7, k9, k11, k14, k15, k16]
         rw [EU_bad _ _ rfl, EC_tab (tab := [(false, none), (false, none), (false, none), (false, none), (true, none), (false, none), (false, none), (false, none), (false, none), (false, none), (false, (some (0, 2))), (false, none), (false, none), (true, none), (true, none)]) (by kernel_rfl)]
         simp (disch := first|exact dis|fail) only [go_sem, Int.reduceToNat, Nat.reduceMul, Nat.reduceAdd, Nat.reduceSub, ↓EU_rg, dec_t, dec_f, k4, k6, k7, k9, k11, k14, k15, k16, hu5, hgot5, r5', hix, hw5, hcB]
         obtain ⟨u6, hu6, su6, bu6⟩ := cut_from fc_sl_37 (su.ext (x'.push (.cells [.int .i64 (readN ((p.drop a).take 4)), .int .i64 (bN p (a + 4)), .int .i64 0] 0))) .i64 ((a : Int) + 4 + 1) (a + 4 + 1) (by omega) (by omega)
         have hgot6 : EF Tryz.prog O0 48 [u6, .int .i64 8] (h'.push (.cells [.int .i64 (readN ((p.drop a).take 4)), .int .i64 (bN p (a + 4)), .int .i64 0] 0)) = some (.int .i64 (readN ((p.drop (a + 4 + 1)).take 8)), (h'.push (.cells [.int .i64 (readN ((p.drop a).take 4)), .int .i64 (bN p (a + 4)), .int .i64 0] 0))) := got_ev _ u6 8 _ su6 (by rw [List.length_drop]; omega) (by decide) (by rw [List.length_drop]; omega)
         simp (disch := first|exact dis|fail) only [go_sem, Int.reduceToNat, Nat.reduceMul, Nat.reduceAdd, Nat.reduceSub, ↓EU_rg, dec_t, dec_f, k4, k6, k7, k9, k11, k14, k15, k16, hcB, hu6, hgot6]
         have hit : decIt 3 (p.drop a) = ⟨readN ((p.drop a).take 4), bN p (a + 4), (readN ((p.drop (a + 4 + 1)).take 8))⟩ := by
          unfold decIt
          rw [bN_drop, List.drop_drop]
          rfl
         have hsn := decVs_snoc 3 i (p.drop 9)
         rw [List.drop_drop, show 9 + szV 3 * i = a from by rw [ha]; rfl, hit] at hsn
         repeat refine WPo_ob ?_
         have hlit := OW.lit itemE_len h' [(⟨readN ((p.drop a).take 4), bN p (a + 4), (readN ((p.drop (a + 4 + 1)).take 8))⟩ : Item)]
         have hlit' := OW.lit itemE_len (h'.push (.cells (itemE (⟨readN ((p.drop a).take 4), bN p (a + 4), (readN ((p.drop (a + 4 + 1)).take 8))⟩ : Item)) 0)) [(⟨readN ((p.drop a).take 4), bN p (a + 4), (readN ((p.drop (a + 4 + 1)).take 8))⟩ : Item)]
         rw [List.flatMap_cons, List.flatMap_nil, List.append_nil] at hlit hlit'
         unfold itemE at hlit hlit'
         have hm1 : ∀ j, blkOf v j → h1.next ≤ j := fun j hj => by have := hfv j hj; omega
         refine append_gr (l := decVs 3 i (p.drop 9)) (l' := [(⟨readN ((p.drop a).take 4), bN p (a + 4), (readN ((p.drop (a + 4 + 1)).take 8))⟩ : Item)]) fc_ap_50_50 itemE_len (by decide) itemE_scal (hov.ext (((Ext.refl h').push _).push _)) hlit'.sl (by rw [decVs_len]; simp only [List.length_cons, List.length_nil]; omega) (by rw [decVs_len]; simp only [List.length_cons, List.length_nil]; omega) fun v' h'' hov' gr => ?_
         rw [← hsn] at hov'
         have hnv : ¬ blkOf v h1.next := fun q => by have := hfv _ q; omega
         have hcB' : h''.get h1.next = .cells [.int .i64 cur, v] 0 := by rw [gr.old _ (by rw [next_push, next_push]; omega) hnv, get_push_old _ (by rw [next_push]; omega), get_push_old _ hlt]; exact hcB
         have hn' := gr.le
         rw [next_push, next_push] at hn'
         have hfv' : Fresh (h1.next + 1) v' := gr.fresh hfv (by rw [next_push, next_push]; omega)
         obtain ⟨av, kv, rfl⟩ := hov'.val
         rw [decVs_len] at hov' hfv' gr
         simp (disch := first|exact dis|fail) only [go_sem, Int.reduceToNat, Nat.reduceMul, Nat.reduceAdd, Nat.reduceSub, ↓EU_rg, k4, k6, k7, k9, k11, k14, k15, k16, hcB', decVs_len]
         have hm2 : Mod (fun j => h1.next ≤ j) h' (h''.set h1.next (.cells [.int .i64 cur, .slice av (i + 1) kv] 0)) := (((((Mod.refl _ h').push _).push _).trans (gr.mod.mono fun j _ hj => hm1 j hj))).set _ _ fun _ => Nat.le_refl _
         refine ⟨_, by omega, i + 1, a + 13, _, _, _, rfl, rfl, by omega, by omega, by simp (disch := first|exact dis|fail) only [go_sem, Int.reduceToNat, Nat.reduceMul, Nat.reduceAdd, Nat.reduceSub, ↓EU_rg, k4], by simp (disch := first|exact dis|fail) only [go_sem, Int.reduceToNat, Nat.reduceMul, Nat.reduceAdd, Nat.reduceSub, ↓EU_rg, k6], by simp (disch := first|exact dis|fail) only [go_sem, Int.reduceToNat, Nat.reduceMul, Nat.reduceAdd, Nat.reduceSub, ↓EU_rg, k7], by simp (disch := first|exact dis|fail) only [go_sem, Int.reduceToNat, Nat.reduceMul, Nat.reduceAdd, Nat.reduceSub, ↓EU_rg, k9], by simp (disch := first|exact dis|fail) only [go_sem, Int.reduceToNat, Nat.reduceMul, Nat.reduceAdd, Nat.reduceSub, ↓EU_rg, k11], by simp (disch := first|exact dis|fail) only [go_sem, Int.reduceToNat, Nat.reduceMul, Nat.reduceAdd, Nat.reduceSub, ↓EU_rg, k14], by simp (disch := first|exact dis|fail) only [go_sem, Int.reduceToNat, Nat.reduceMul, Nat.reduceAdd, Nat.reduceSub, ↓EU_rg, k15], by simp (disch := first|exact dis|fail) only [go_sem, Int.reduceToNat, Nat.reduceMul, Nat.reduceAdd, Nat.reduceSub, ↓EU_rg]; exact congrArg (Value.int .i64) (by omega), by simp (disch := first|exact dis|fail) only [go_sem, Int.reduceToNat, Nat.reduceMul, Nat.reduceAdd, Nat.reduceSub, ↓EU_rg], hov'.mod (Mod.set (S := fun j => j = h1.next) (Mod.refl _ _) _ _ (fun _ => rfl)) (fun j hj q => by have := hfv' j hj; omega), hfv', ?_, by rw [next_set]; omega⟩
         exact ⟨Nat.le_trans x'.le hm2.le, fun j hj => (hm2.old j (Nat.lt_of_lt_of_le hj x'.le) (by omega)).trans (x'.old j hj)⟩
        ·have b3' := b3
         simp only [decide_eq_false_iff_not] at b3'
         have : i = n := by omega
         subst this
         simp (disch := first|exact dis|fail) only [go_sem, Int.reduceToNat, Nat.reduceMul, Nat.reduceAdd, Nat.reduceSub, ↓EU_rg]
         exact ⟨_, _, v, rfl, trivial, by simp (disch := first|exact dis|fail) only [go_sem, Int.reduceToNat, Nat.reduceMul, Nat.reduceAdd, Nat.reduceSub, ↓EU_rg, k4], by simp (disch := first|exact dis|fail) only [go_sem, Int.reduceToNat, Nat.reduceMul, Nat.reduceAdd, Nat.reduceSub, ↓EU_rg, k6], by simp (disch := first|exact dis|fail) only [go_sem, Int.reduceToNat, Nat.reduceMul, Nat.reduceAdd, Nat.reduceSub, ↓EU_rg, k7], by simp (disch := first|exact dis|fail) only [go_sem, Int.reduceToNat, Nat.reduceMul, Nat.reduceAdd, Nat.reduceSub, ↓EU_rg, k9], by simp (disch := first|exact dis|fail) only [go_sem, Int.reduceToNat, Nat.reduceMul, Nat.reduceAdd, Nat.reduceSub, ↓EU_rg, k15], hcB, hov, hfv, x', hlt⟩
       ·refine ⟨0, 9, _, _, _, rfl, rfl, by omega, rfl, by simp (disch := first|exact dis|fail) only [go_sem, Int.reduceToNat, Nat.reduceMul, Nat.reduceAdd, Nat.reduceSub, ↓EU_rg], by simp (disch := first|exact dis|fail) only [go_sem, Int.reduceToNat, Nat.reduceMul, Nat.reduceAdd, Nat.reduceSub, ↓EU_rg], by simp (disch := first|exact dis|fail) only [go_sem, Int.reduceToNat, Nat.reduceMul, Nat.reduceAdd, Nat.reduceSub, ↓EU_rg], by simp (disch := first|exact dis|fail) only [go_sem, Int.reduceToNat, Nat.reduceMul, Nat.reduceAdd, Nat.reduceSub, ↓EU_rg], by simp (disch := first|exact dis|fail) only [go_sem, Int.reduceToNat, Nat.reduceMul, Nat.reduceAdd, Nat.reduceSub, ↓EU_rg], by simp (disch := first|exact dis|fail) only [go_sem, Int.reduceToNat, Nat.reduceMul, Nat.reduceAdd, Nat.reduceSub, ↓EU_rg], by simp (disch := first|exact dis|fail) only [go_sem, Int.reduceToNat, Nat.reduceMul, Nat.reduceAdd, Nat.reduceSub, ↓EU_rg], by simp (disch := first|exact dis|fail) only [go_sem, Int.reduceToNat, Nat.reduceMul, Nat.reduceAdd, Nat.reduceSub, ↓EU_rg]; all_goals rfl, get_push_new _ _, OW.nil, Fresh.nil _ _ _, (Ext.refl _).push _, by rw [next_push]; omega⟩
       ·omega
       ·rintro ⟨q, _⟩ ⟨tm, h', v, rfl, rfl, k4, k6, k7, k9, k15, hcB, hov, hfv, x', hlt⟩
        obtain ⟨B', o', c', e, _, r3⟩ := rd_byte (su.ext x') (i := 3) (by omega)
        cases e
        have hlt3 := bN_lt p 3
        have hw3 : wrapF .i64 (bN p 3 : Int) = bN p 3 := wrap64 (by omega)
        have c0' : h'.get h.next = .cells [.int .i64 0, .slice none 0 1] 0 := by rw [x'.old _ (by omega)]; exact c0
        have c1' : h'.get (h.next + 1) = .cells [.int .i64 0, .slice none 0 1] 0 := by rw [x'.old _ (by omega)]; exact c1
        have y' : Ext h h' := y1.trans x'
        have hn' := x'.le
        simp (disch := first|exact dis|fail) only [go_sem, Int.reduceToNat, Nat.reduceMul, Nat.reduceAdd, Nat.reduceSub, ↓EU_rg, dec_t, dec_f, k4, k6, k7, k9, k15, hcB, r3]
        ((repeat refine WPo_ob ?_); (first | refine WPo_cond (fun b5 => ?_) (fun b5 => ?_) | refine WPo_gard (fun b5 => ?_) (fun b5 => ?_) | refine WPo_gardT (fun b5 => ?_) (fun b5 => ?_)) <;> (try simp only [Bool.not_eq_true', Bool.not_eq_false'] at b5))
        ·have b5' := b5
         simp only [decide_eq_false_iff_not] at b5'
         rw [decide_eq_true (by omega : bN p 3 ≤ 2), Bool.true_and] at hBV
         simp (disch := first|exact dis|fail) only [go_sem, Int.reduceToNat, Nat.reduceMul, Nat.reduceAdd, Nat.reduceSub, ↓EU_rg, dec_t, dec_f, k4, k6, k7, k9, k15, hcB, r3, b5]
         repeat refine WPo_ob ?_
         have hGd := rgood_ev cur _ v h' hov.sl (by rw [decVs_len]; omega)
         obtain ⟨av, kv, rfl⟩ := hov.val
         unfold formV at hGd
         refine hGd.bind fun h'' x'' => ?_
         have hcB'' : h''.get h1.next = .cells [.int .i64 cur, .slice av (decVs 3 n (p.drop 9)).length kv] 0 := by rw [x''.old _ hlt]; exact hcB
         have c0'' : h''.get h.next = .cells [.int .i64 0, .slice none 0 1] 0 := by rw [x''.old _ (by omega)]; exact c0'
         have c1'' : h''.get (h.next + 1) = .cells [.int .i64 0, .slice none 0 1] 0 := by rw [x''.old _ (by omega)]; exact c1'
         have r3'' : rdc1 (h''.get B) (o + 3) = some (.int .u8 (bN p 3)) := by rw [x''.old _ (by omega)]; exact r3
         have hn'' := x''.le
         simp (disch := first|exact dis|fail) only [go_sem, Int.reduceToNat, Nat.reduceMul, Nat.reduceAdd, Nat.reduceSub, ↓EU_rg, dec_t, dec_f, k4, k6, k7, k9, k15, hcB'', c0'', c1'', r3'']
         ((repeat refine WPo_ob ?_); (first | refine WPo_cond (fun b6 => ?_) (fun b6 => ?_) | refine WPo_gard (fun b6 => ?_) (fun b6 => ?_) | refine WPo_gardT (fun b6 => ?_) (fun b6 => ?_)) <;> (try simp only [Bool.not_eq_true', Bool.not_eq_false'] at b6))
         ·rw [b6, if_neg (by simp)] at hBV
          rw [hBV]
          simp (disch := first|exact dis|fail) only [go_sem, Int.reduceToNat, Nat.reduceMul, Nat.reduceAdd, Nat.reduceSub, ↓EU_rg, dec_t, dec_f, b6, k4, k6, k7, k9, k15, hcB'', c0'', c1'', r3'']
          exact ⟨_, rfl, OW.nil, Fresh.nil _ _ _, (y'.trans x'').set _ _ (Nat.le_refl _)⟩
         ·rw [b6, if_pos rfl] at hBV
          rw [hBV]
          simp (disch := first|exact dis|fail) only [go_sem, Int.reduceToNat, Nat.reduceMul, Nat.reduceAdd, Nat.reduceSub, ↓EU_rg, dec_t, dec_f, b6, k4, k6, k7, k9, k15, hcB'', c0'', c1'', r3'', hw3]
          exact ⟨_, rfl, (hov.ext x'').mod (Mod.set (S := fun j => j = h.next) (Mod.refl _ _) _ _ (fun _ => rfl)) (fun j hj q => by have := hfv j hj; omega), hfv.mono (by omega), (y'.trans x'').set _ _ (Nat.le_refl _)⟩
        ·have b5' := b5
         simp only [decide_eq_true_eq] at b5'
         rw [decide_eq_false (by omega : ¬ bN p 3 ≤ 2), Bool.false_and, if_neg (by simp)] at hBV
         rw [hBV]
         simp (disch := first|exact dis|fail) only [go_sem, Int.reduceToNat, Nat.reduceMul, Nat.reduceAdd, Nat.reduceSub, ↓EU_rg, dec_t, dec_f, b5, k4, k6, k7, k9, k15, hcB, c0', c1', r3]
         exact ⟨_, rfl, OW.nil, Fresh.nil _ _ _, y'.set _ _ (Nat.le_refl _)⟩
     ·have b1' := b1
      simp only [decide_eq_true_eq] at b1'
      rw [if_pos (.inl (by omega))] at hBV
      rw [hBV]
      simp (disch := first|exact dis|fail) only [go_sem, Int.reduceToNat, Nat.reduceMul, Nat.reduceAdd, Nat.reduceSub, ↓EU_rg, dec_t, dec_f, b1, c0, c1]
      exact ⟨_, rfl, OW.nil, Fresh.nil _ _ _, y1.set _ _ (Nat.le_refl _)⟩
theorem readN_one (q : List UInt8) (k : Nat) : readN ((q.drop k).take 1) = (bN q k : Int) := by
 have h := bN_lt q k
 cases hq : q.drop k with
 | nil =>
  have h1 : bN q k = 0 := by
   have := bN_drop q k 0
   rw [hq, Nat.add_zero] at this
   rw [← this]; rfl
  rw [h1]; rfl
 | cons b r =>
  have h1 : bN q k = b.toNat := by
   have := bN_drop q k 0
   rw [hq, Nat.add_zero] at this
   rw [← this]; rfl
  rw [h1] at h ⊢
  unfold readN sgn64 beN
  simp only [List.take_succ_cons, List.take_zero, List.foldl_cons, List.foldl_nil, Nat.zero_mul, Nat.zero_add]
  rw [if_pos (by omega)]
theorem decIt_3 (q : List UInt8) : decIt 3 q = decItem q := by
 unfold decIt decItem
 rw [readN_one]; rfl
theorem decVs_3 : ∀ (n : Nat) (q : List UInt8), decVs 3 n q = decs n q
 | 0, _ => rfl
 | n + 1, q => by rw [decVs, decs, decIt_3, decVs_3 n]; rfl
theorem bodyV_3 {p : List UInt8} (h3 : 3 ≤ p.length) : bodyV 3 p = bodyR (p.drop 3) := by
 have e1 : bN (p.drop 3) 5 = bN p 8 := bN_drop p 3 5
 have e2 : bN (p.drop 3) 0 = bN p 3 := bN_drop p 3 0
 have e3 : readN (((p.drop 3).drop 1).take 4) - 1 = curV 3 p := by rw [List.drop_drop]; rfl
 have e4 : (p.drop 3).drop 6 = p.drop 9 := by rw [List.drop_drop]
 unfold bodyV bodyR
 rw [e1, e2, e3, e4, List.length_drop]
 rw [show 5 + curL 3 = 9 from rfl, show 4 + curL 3 = 8 from rfl, show szV 3 = 13 from rfl, decVs_3]
 have hc : cgood (bN p 3 : Int) (curV 3 p) (decs (bN p 8) (p.drop 9)) = (decide (bN p 3 ≤ 2) && goodF (curV 3 p) (decs (bN p 8) (p.drop 9))) := by
  unfold cgood
  rw [decide_eq_true (by omega : (0 : Int) ≤ (bN p 3 : Int)), Bool.true_and]
  congr 1
  rw [decide_eq_decide]; omega
 rw [hc]
 by_cases q : p.length < 9 ∨ p.length ≠ 9 + 13 * bN p 8
 ·rw [if_pos q, if_pos (show p.length - 3 < 6 ∨ p.length - 3 ≠ 6 + 13 * bN p 8 by omega)]
 ·rw [if_neg q, if_neg (show ¬ (p.length - 3 < 6 ∨ p.length - 3 ≠ 6 + 13 * bN p 8) by omega)]
noncomputable def rgetR (l : List UInt8) : Int × Int × List Item × Int :=
 if (readR l).2.2.2.2 ≠ 9 ∧ (readR l).1 ≠ 3 ∧ ((readR l).1 = 1 ∨ (readR l).1 = 2) then (0, 0, [], 10) else (readR l).2
theorem getR_ref (l : List UInt8) : rgetR l = getR l := by
 cases ho : openN l with
 | none =>
  have e1 : readR l = (0, 0, 0, [], 9) := by unfold readR; rw [ho]
  have e2 : openR l = ([], 0, 9) := by unfold openR; rw [ho]
  unfold rgetR getR
  rw [e1, e2]; rfl
 | some p =>
  cases hb : versionN p with
  | none =>
   have e1 : readR l = (0, 0, 0, [], 8) := by unfold readR; rw [ho]; dsimp only; rw [hb]
   have e2 : openR l = ([], 0, 8) := by unfold openR; rw [ho]; dsimp only; rw [hb]
   unfold rgetR getR
   rw [e1, e2]; rfl
  | some v =>
   have e1 : readR l = if v < 1 ∨ 3 < v then (v, 0, 0, [], 10) else (v, bodyV v p) := by unfold readR; rw [ho]; dsimp only; rw [hb]
   have e2 : openR l = (p.drop 3, v, 0) := by unfold openR; rw [ho]; dsimp only; rw [hb]
   have h3 : 3 ≤ p.length := by
    obtain ⟨c, r, rfl, rfl⟩ := versionN_inv hb
    simp only [List.length_cons]; omega
   have e3 : getR l = if v ≠ 3 then (0, 0, [], 10) else bodyR (p.drop 3) := by
    unfold getR
    rw [e2]; rfl
   have hne : (bodyV v p).2.2.2 ≠ 9 := by
    unfold bodyV
    split
    ·simp
    ·split <;> simp
   rw [e3]
   unfold rgetR
   by_cases hv : v < 1 ∨ 3 < v
   ·rw [e1, if_pos hv, if_pos (show v ≠ 3 by omega), if_neg (by rintro ⟨_, _, h⟩; dsimp only at h; omega)]
   ·rw [e1, if_neg hv]
    by_cases h3' : v = 3
    ·rw [if_neg (show ¬ v ≠ 3 by omega), if_neg (by rintro ⟨_, h, _⟩; exact h h3'), h3']
     exact bodyV_3 h3
    ·rw [if_pos (show v ≠ 3 from h3'), if_pos ⟨hne, h3', by dsimp only; omega⟩]
end Go.Proofs.YtddgcakiceodgaaGreat.EV
