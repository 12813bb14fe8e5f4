/- Numbers in bytes; contracts: code.Number, code.Read, code.Version, code.Size, code.Good, code.Open. No condition. Plain laws of what is written: it tells the form. No condition. Contract: code.Get. No condition. Plain laws of what is written and read. No condition. Contracts: the reference's GoodWeight, Good, Same. No condition. -/
import Derived.Test.YtddgcakiceodgaaGreatM13
import Derived.Test.YtddgcakiceodgaaGreatM10
namespace Go.Proofs.YtddgcakiceodgaaGreat.EV
open Go Go.Proofs
set_option linter.unusedVariables false
set_option linter.unusedSimpArgs false
set_option maxRecDepth 100000

noncomputable def byteI (n : Int) (i : Nat) : UInt8 := UInt8.ofNat ((n / 2 ^ (8 * i)) % 256).toNat
noncomputable def numB (n : Int) : Nat → List UInt8
 | 0 => []
 | k + 1 => byteI n k :: numB n k
noncomputable def beN (l : List UInt8) : Nat := l.foldl (fun n b => n * 256 + b.toNat) 0
noncomputable def sgn64 (n : Nat) : Int := if n < 9223372036854775808 then (n : Int) else (n : Int) - 18446744073709551616
theorem numB_len (n : Int) : ∀ k, (numB n k).length = k
 | 0 => rfl
 | k + 1 => by rw [numB, List.length_cons, numB_len n k]
theorem numB_at (n : Int) : ∀ (k i : Nat), i < k → (numB n k)[i]? = some (byteI n (k - 1 - i))
 | k + 1, 0, _ => rfl
 | k + 1, i + 1, h => by
  rw [numB, List.getElem?_cons_succ, numB_at n k i (by omega)]
  congr 2; omega
theorem beN_snoc (l : List UInt8) (b : UInt8) : beN (l ++ [b]) = beN l * 256 + b.toNat := by
 unfold beN; rw [List.foldl_append]; rfl
theorem foldl_be (l : List UInt8) : ∀ a : Nat, l.foldl (fun n b => n * 256 + b.toNat) a = a * 256 ^ l.length + beN l := by
 induction l with
 | nil => intro a; simp [beN]
 | cons b l ih =>
  intro a
  unfold beN
  rw [List.foldl_cons, List.foldl_cons, ih, ih]
  simp only [List.length_cons, Nat.pow_succ, Nat.zero_mul, Nat.zero_add]
  rw [Nat.add_mul, Nat.mul_assoc, Nat.mul_comm 256, Nat.add_assoc]
theorem beN_cons (b : UInt8) (l : List UInt8) : beN (b :: l) = b.toNat * 256 ^ l.length + beN l := by
 show (b :: l).foldl _ 0 = _
 rw [List.foldl_cons, foldl_be]
 simp
theorem beN_lt : ∀ l : List UInt8, beN l < 256 ^ l.length
 | [] => by simp [beN]
 | b :: l => by
  rw [beN_cons, List.length_cons, Nat.pow_succ]
  have h1 := beN_lt l
  have h2 := b.toNat_lt
  have h3 : (b.toNat + 1) * 256 ^ l.length ≤ 256 * 256 ^ l.length := Nat.mul_le_mul_right _ (by omega)
  rw [Nat.add_mul, Nat.one_mul] at h3
  rw [Nat.mul_comm (256 ^ l.length) 256]
  omega
theorem byteI_toNat (n : Int) (i : Nat) : ((byteI n i).toNat : Int) = (n / 2 ^ (8 * i)) % 256 := by
 unfold byteI
 rw [UInt8.toNat_ofNat']
 have h1 := Int.emod_nonneg (n / 2 ^ (8 * i)) (by decide : (256 : Int) ≠ 0)
 have h2 := Int.emod_lt_of_pos (n / 2 ^ (8 * i)) (by decide : (0 : Int) < 256)
 omega
theorem emod_split {n p : Int} (hp : 0 < p) : n % (p * 256) = n / p % 256 * p + n % p := by
 have h1 := Int.mul_ediv_add_emod n p
 have h2 := Int.mul_ediv_add_emod (n / p) 256
 have h3 := Int.emod_nonneg n (Int.ne_of_gt hp)
 have h4 := Int.emod_lt_of_pos n hp
 have h5 := Int.emod_nonneg (n / p) (by decide : (256 : Int) ≠ 0)
 have h6 := Int.emod_lt_of_pos (n / p) (by decide : (0 : Int) < 256)
 generalize n % p = r at *
 generalize n / p % 256 = u at *
 generalize n / p / 256 = t at *
 generalize n / p = q at *
 have h7 : u * p ≤ 255 * p := Int.mul_le_mul_of_nonneg_right (by omega) (Int.le_of_lt hp)
 have h8 : 0 ≤ u * p := Int.mul_nonneg h5 (Int.le_of_lt hp)
 have e : n = (u * p + r) + (p * 256) * t := by
  rw [← h1, ← h2, Int.mul_add, ← Int.mul_assoc, Int.mul_comm p u]
  omega
 rw [e, Int.add_mul_emod_self_left, Int.emod_eq_of_lt (by omega) (by omega)]
theorem beN_numB (n : Int) : ∀ k, (beN (numB n k) : Int) = n % (256 : Int) ^ k
 | 0 => by show (0 : Int) = n % 1; omega
 | k + 1 => by
  rw [numB, beN_cons, numB_len]
  have ih := beN_numB n k
  have hb := byteI_toNat n k
  have hp : ((2 : Int) ^ (8 * k)) = 256 ^ k := by rw [Int.pow_mul]; rfl
  rw [hp] at hb
  have hpos : (0 : Int) < 256 ^ k := Int.pow_pos (by decide)
  rw [Int.natCast_add, Int.natCast_mul, ih, hb, Int.natCast_pow, Int.pow_succ, emod_split hpos]
  rfl
theorem number_ev (l : List UInt8) (s : Value) (n : Int) (size : Nat) (h : Heap) (ho : OW byteE 1 h s l) (hz : size ≤ 8) (hl : l.length < 800000) :
  WPo (EF Tryz.prog O0 80 [s, .int .i64 n, .int .i64 size] h) fun q => OW byteE 1 q.2 q.1 (l ++ numB n size) ∧ Gr s h q.1 q.2 := by
 rw [EF_body (O := O0) (by kernel_rfl) Tryz.func80 rfl (rs := [.tmp 6]) rfl (bad := []) (by kernel_rfl) _ _ (m := 23) rfl]
 simp (disch := first|exact dis|fail) only [go_sem, Int.reduceToNat, Nat.reduceMul, Nat.reduceAdd, Nat.reduceSub, ↓EU_rg]
 repeat refine WPo_ob ?_
 refine (LP_rule (fun m st => ∃ (i : Nat) (tm : Fr) (h1 : Heap) (v : Value), st = ⟨tm, h1, []⟩ ∧ m = i ∧ i ≤ size ∧ Fr.get tm 0 = v ∧ Fr.get tm 1 = .int .i64 n ∧ Fr.get tm 7 = .int .i64 ((i : Int) - 1) ∧ OW byteE 1 h1 v (l ++ (numB n size).take (size - i)) ∧ Gr s h v h1)
  (fun q => ∃ tm h1 v, q.2 = ⟨tm, h1, []⟩ ∧ q.1 = .exit 0 ∧ Fr.get tm 0 = v ∧ OW byteE 1 h1 v (l ++ numB n size) ∧ Gr s h v h1) ?_ size _ _ ?_ ?_).mono ?_
 ·rintro m _ ⟨i, tm, h1, v, rfl, rfl, hi, g0, g1, g7, ho1, x1⟩
  simp (disch := first|exact dis|fail) only [go_sem, Int.reduceToNat, Nat.reduceMul, Nat.reduceAdd, Nat.reduceSub, ↓EU_rg, g0, g1, g7]
  ((repeat refine WPo_ob ?_); (first | refine WPo_cond (fun b1 => ?_) (fun b1 => ?_) | refine WPo_gard (fun b1 => ?_) (fun b1 => ?_) | refine WPo_gardT (fun b1 => ?_) (fun b1 => ?_)) <;> (try simp only [Bool.not_eq_true', Bool.not_eq_false'] at b1))
  ·have b1' := b1
   simp only [decide_eq_true_eq] at b1'
   have hb : (n / 2 ^ (8 * ((m : Int) - 1)).toNat) % 256 = ((byteI n (m - 1)).toNat : Int) := by
    rw [byteI_toNat]; congr 3; omega
   have hw : wrapF .u8 (n / 2 ^ (8 * ((m : Int) - 1)).toNat) = ((byteI n (m - 1)).toNat : Int) := hb
   have hnx : (numB n size).take (size - (m - 1)) = (numB n size).take (size - m) ++ [byteI n (m - 1)] := by
    rw [show size - (m - 1) = size - m + 1 by omega, List.take_add_one, numB_at n size (size - m) (by omega)]
    rw [show size - 1 - (size - m) = m - 1 by omega]; rfl
   simp (disch := first|exact dis|fail) only [go_sem, Int.reduceToNat, Nat.reduceMul, Nat.reduceAdd, Nat.reduceSub, ↓EU_rg, g0, g1, g7, bin_shr64, hw]
   repeat refine WPo_ob ?_
   refine append_gr (l := l ++ (numB n size).take (size - m)) (l' := [byteI n (m - 1)]) fc_ap_37_37 (fun _ => rfl) (by decide) byteE_scal (ho1.ext ((Ext.refl h1).push _)) (OW.lit byteE_len h1 [byteI n (m - 1)]).sl (by simp; omega) (by simp; omega) fun v' h2 ho2 x2 => ?_
   rw [List.append_assoc, ← hnx] at ho2
   simp (disch := first|exact dis|fail) only [go_sem, Int.reduceToNat, Nat.reduceMul, Nat.reduceAdd, Nat.reduceSub, ↓EU_rg, g7]
   exact ⟨m - 1, by omega, m - 1, _, _, v', rfl, rfl, by omega, by simp (disch := first|exact dis|fail) only [go_sem, Int.reduceToNat, Nat.reduceMul, Nat.reduceAdd, Nat.reduceSub, ↓EU_rg], by simp (disch := first|exact dis|fail) only [go_sem, Int.reduceToNat, Nat.reduceMul, Nat.reduceAdd, Nat.reduceSub, ↓EU_rg, g1], by simp (disch := first|exact dis|fail) only [go_sem, Int.reduceToNat, Nat.reduceMul, Nat.reduceAdd, Nat.reduceSub, ↓EU_rg]; congr 1; omega, ho2, (x1.push _).trans x2⟩
  ·simp only [decide_eq_false_iff_not] at b1
   have : m = 0 := by omega
   subst this
   rw [Nat.sub_zero, List.take_of_length_le (by rw [numB_len]; omega)] at ho1
   simp (disch := first|exact dis|fail) only [go_sem, Int.reduceToNat, Nat.reduceMul, Nat.reduceAdd, Nat.reduceSub, ↓EU_rg]
   exact ⟨_, _, v, rfl, trivial, by simp (disch := first|exact dis|fail) only [go_sem, Int.reduceToNat, Nat.reduceMul, Nat.reduceAdd, Nat.reduceSub, ↓EU_rg, g0], ho1, x1⟩
 ·refine ⟨size, _, _, s, rfl, rfl, Nat.le_refl _, by simp (disch := first|exact dis|fail) only [go_sem, Int.reduceToNat, Nat.reduceMul, Nat.reduceAdd, Nat.reduceSub, ↓EU_rg], by simp (disch := first|exact dis|fail) only [go_sem, Int.reduceToNat, Nat.reduceMul, Nat.reduceAdd, Nat.reduceSub, ↓EU_rg], by simp (disch := first|exact dis|fail) only [go_sem, Int.reduceToNat, Nat.reduceMul, Nat.reduceAdd, Nat.reduceSub, ↓EU_rg], ?_, Gr.refl _ _⟩
  rw [Nat.sub_self, List.take_zero, List.append_nil]; exact ho
 ·omega
 ·rintro ⟨q, _⟩ ⟨tm, h1, v, rfl, rfl, g0, ho1, x1⟩
  simp (disch := first|exact dis|fail) only [go_sem, Int.reduceToNat, Nat.reduceMul, Nat.reduceAdd, Nat.reduceSub, ↓EU_rg, g0]
  exact ⟨ho1, x1⟩
theorem size_ev (n : Int) (h : Heap) (hn : 0 ≤ n ∧ n < 1000000000) : EF Tryz.prog O0 94 [.int .i64 n] h = some (.int .i64 (13 + 13 * n), h) := by
 have : WPo (EF Tryz.prog O0 94 [.int .i64 n] h) fun q => q = (.int .i64 (13 + 13 * n), h) := by
  rw [EF_body (O := O0) (by kernel_rfl) Tryz.func94 rfl (rs := [.tmp 2]) rfl (bad := []) (by kernel_rfl) _ _ (m := 7) rfl]
  simp (disch := first|exact dis|fail) only [go_sem, Int.reduceToNat, Nat.reduceMul, Nat.reduceAdd, Nat.reduceSub, ↓EU_rg]
  congr 2
  omega
 obtain ⟨q, e, rfl⟩ := this
 exact e
noncomputable def cgood (tag cur : Int) (l : List Item) : Bool := (decide (0 ≤ tag) && decide (tag ≤ 2)) && goodF cur l
theorem cgood_ev (tag cur : Int) (l : List Item) (s : Value) (h : Heap) (hs : SL itemE 3 h s l) (hl : l.length < 900000) :
  Pu (EF Tryz.prog O0 79 [.int .i64 tag, formV cur s] h) h (.bool (cgood tag cur l)) := by
 have hG := good_ev cur l s (h.push (.cells [.int .i64 cur, s] 0)) (hs.ext ((Ext.refl h).push _)) hl
 unfold Pu
 rw [EF_body (O := O0) (by kernel_rfl) Tryz.func79 rfl (rs := [.tmp 4]) rfl (bad := []) (by kernel_rfl) _ _ (m := 15) rfl]
 obtain ⟨a, c, hv⟩ := hs.val
 subst hv
 unfold formV at hG ⊢
 simp (disch := first|exact dis|fail) only [go_sem, Int.reduceToNat, Nat.reduceMul, Nat.reduceAdd, Nat.reduceSub, ↓EU_rg]
 repeat' (((repeat refine WPo_ob ?_); (first | refine WPo_cond (fun hb => ?_) (fun hb => ?_) | refine WPo_gard (fun hb => ?_) (fun hb => ?_) | refine WPo_gardT (fun hb => ?_) (fun hb => ?_)) <;> (try simp only [Bool.not_eq_true', Bool.not_eq_false'] at hb)) <;> (simp (disch := first|exact dis|fail) only [go_sem, Int.reduceToNat, Nat.reduceMul, Nat.reduceAdd, Nat.reduceSub, ↓EU_rg, hb]))
 ·repeat refine WPo_ob ?_
  refine hG.bind fun h1 x1 => ?_
  simp (disch := first|exact dis|fail) only [go_sem, Int.reduceToNat, Nat.reduceMul, Nat.reduceAdd, Nat.reduceSub, ↓EU_rg]
  exact ⟨by simp [cgood, *], ((Ext.refl h).push _).trans x1⟩
 all_goals exact ⟨by simp [cgood, *], (Ext.refl h).push _⟩
noncomputable def readN (l : List UInt8) : Int := sgn64 (beN l)
theorem or_low (a : Nat) (b : UInt8) : (a * 256) ||| b.toNat = a * 256 + b.toNat := by
 have := Nat.shiftLeft_add_eq_or_of_lt (i := 8) (b := b.toNat) (by have := b.toNat_lt; omega) a
 rw [Nat.shiftLeft_eq] at this
 exact this.symm
theorem bin_or64 (P : Program) (t : TypeId) (x y : Operand) (a : Nat) (b : UInt8) (ha : a < 72057594037927936) : evBin P .or t x y (.int .i64 (wrapF .i64 ((a : Int) * 256))) (.int .i64 (b.toNat : Int)) = some (.int .i64 (sgn64 (a * 256 + b.toNat))) := by
 have hb := b.toNat_lt
 refine bin_int _ _ _ _ _ _ _ _ _ ?_ rfl
 show some (Value.int .i64 (wrapF .i64 (Int.ofNat (Nat.lor (natK .i64 (wrapF .i64 ((a : Int) * 256))) (natK .i64 (b.toNat : Int)))))) = _
 have e1 : natK .i64 (wrapF .i64 ((a : Int) * 256)) = a * 256 := by
  have hm : Int.emod ((a : Int) * 256) 18446744073709551616 = ((a * 256 : Nat) : Int) := by
   show ((a : Int) * 256) % 18446744073709551616 = _
   omega
  show Int.toNat (Int.emod (cnd (true && decide ((9223372036854775808 : Int) ≤ Int.emod ((a : Int) * 256) 18446744073709551616)) (Int.emod ((a : Int) * 256) 18446744073709551616 - 18446744073709551616) (Int.emod ((a : Int) * 256) 18446744073709551616)) 18446744073709551616) = _
  rw [hm]
  by_cases q : (9223372036854775808 : Int) ≤ ((a * 256 : Nat) : Int)
  ·rw [decide_eq_true q, Bool.true_and, cnd_true]
   show Int.toNat ((((a * 256 : Nat) : Int) - 18446744073709551616) % 18446744073709551616) = _
   omega
  ·rw [decide_eq_false q, Bool.true_and, cnd_false]
   show Int.toNat (((a * 256 : Nat) : Int) % 18446744073709551616) = _
   omega
 have e2 : natK .i64 (b.toNat : Int) = b.toNat := by
  show Int.toNat ((b.toNat : Int) % 18446744073709551616) = _
  omega
 rw [e1, e2]
 show some (Value.int .i64 (wrapF .i64 ((((a * 256) ||| b.toNat : Nat)) : Int))) = _
 rw [or_low]
 congr 2
 unfold sgn64
 have hm : Int.emod ((a * 256 + b.toNat : Nat) : Int) 18446744073709551616 = ((a * 256 + b.toNat : Nat) : Int) := by
  show ((a * 256 + b.toNat : Nat) : Int) % 18446744073709551616 = _
  omega
 show cnd (true && decide ((9223372036854775808 : Int) ≤ Int.emod ((a * 256 + b.toNat : Nat) : Int) 18446744073709551616)) (Int.emod ((a * 256 + b.toNat : Nat) : Int) 18446744073709551616 - 18446744073709551616) (Int.emod ((a * 256 + b.toNat : Nat) : Int) 18446744073709551616) = _
 rw [hm]
 by_cases q : (9223372036854775808 : Int) ≤ ((a * 256 + b.toNat : Nat) : Int)
 ·rw [decide_eq_true q, Bool.true_and, cnd_true, if_neg (by omega)]
 ·rw [decide_eq_false q, Bool.true_and, cnd_false, if_pos (by omega)]
theorem read_ev (l : List UInt8) (s : Value) (m : Nat) (h : Heap) (hs : SL byteE 1 h s l) (hm : m ≤ l.length) (h8 : m ≤ 8) (hl : l.length < 900000) :
  WPo (EF Tryz.prog O0 92 [s, .int .i64 m] h) fun q => ∃ u, q = (.tuple ⟨[.int .i64 (readN (l.take m)), u]⟩, h) ∧ SL byteE 1 h u (l.drop m) ∧ ∀ i, blkOf u i → blkOf s i := by
 rw [EF_body (O := O0) (by kernel_rfl) Tryz.func92 rfl (rs := [.tmp 4, .tmp 5]) rfl (bad := []) (by kernel_rfl) _ _ (m := 27) rfl]
 obtain ⟨u, hu, su, bu⟩ := cut_to fc_sl_37 hs .i64 (m : Int) m rfl hm
 obtain ⟨u', hu', su', bu'⟩ := cut_from fc_sl_37 hs .i64 (m : Int) m rfl hm
 obtain ⟨a, c, hv⟩ := su.val
 subst hv
 have hlen : (l.take m).length = m := by rw [List.length_take]; omega
 rw [hlen] at su hu
 simp (disch := first|exact dis|fail) only [go_sem, Int.reduceToNat, Nat.reduceMul, Nat.reduceAdd, Nat.reduceSub, ↓EU_rg, hu]
 repeat refine WPo_ob ?_
 refine (LP_rule (fun k st => ∃ (i : Nat) (tm : Fr), st = ⟨tm, h, []⟩ ∧ k = m - i ∧ i ≤ m ∧ Fr.get tm 0 = s ∧ Fr.get tm 1 = .int .i64 m ∧ Fr.get tm 11 = .slice a m c ∧ Fr.get tm 12 = .int .i64 m ∧ Fr.get tm 13 = .int .i64 i ∧ Fr.get tm 6 = .int .i64 (readN ((l.take m).take i)))
  (fun q => ∃ tm, q.2 = ⟨tm, h, []⟩ ∧ q.1 = .exit 0 ∧ Fr.get tm 0 = s ∧ Fr.get tm 1 = .int .i64 m ∧ Fr.get tm 6 = .int .i64 (readN (l.take m))) ?_ m _ _ ?_ ?_).mono ?_
 ·rintro k _ ⟨i, tm, rfl, rfl, hi, g0, g1, g11, g12, g13, g6⟩
  simp (disch := first|exact dis|fail) only [go_sem, Int.reduceToNat, Nat.reduceMul, Nat.reduceAdd, Nat.reduceSub, ↓EU_rg, g0, g1, g11, g12, g13, g6]
  ((repeat refine WPo_ob ?_); (first | refine WPo_cond (fun b1 => ?_) (fun b1 => ?_) | refine WPo_gard (fun b1 => ?_) (fun b1 => ?_) | refine WPo_gardT (fun b1 => ?_) (fun b1 => ?_)) <;> (try simp only [Bool.not_eq_true', Bool.not_eq_false'] at b1))
  ·simp only [decide_eq_true_eq] at b1
   have hi' : i < m := by omega
   obtain ⟨x, hx⟩ : ∃ x, (l.take m)[i]? = some x := ⟨_, List.getElem?_eq_getElem (by omega)⟩
   obtain ⟨b, o, c', e, hb', _, hr⟩ := su.at hx rfl
   rw [hlen] at e
   cases e
   have hr0 := hr 0 _ rfl
   rw [add_z] at hr0
   have hxl := x.toNat_lt
   have hbe := beN_lt ((l.take m).take i)
   have hp : 256 ^ ((l.take m).take i).length ≤ 256 ^ 7 := Nat.pow_le_pow_right (by decide) (by rw [List.length_take]; omega)
   have hbe' : beN ((l.take m).take i) < 72057594037927936 := Nat.lt_of_lt_of_le hbe hp
   have hrd : readN ((l.take m).take i) = (beN ((l.take m).take i) : Int) := by
    unfold readN sgn64
    rw [if_pos (by omega)]
   have hrd2 : readN ((l.take m).take (i + 1)) = sgn64 (beN ((l.take m).take i) * 256 + x.toNat) := by
    unfold readN
    rw [List.take_add_one, hx]
    exact congrArg sgn64 (beN_snoc _ _)
   have hw : wrapF .i64 (x.toNat : Int) = (x.toNat : Int) := wrap64 (by omega)
   rw [hrd] at g6
   have hor := bin_or64 Tryz.prog 2 (.tmp 18) (.tmp 20) (beN ((l.take m).take i)) x hbe'
   rw [show (256 : Int) = 2 ^ 8 from rfl] at hor
   simp (disch := first|exact dis|fail) only [go_sem, Int.reduceToNat, Nat.reduceMul, Nat.reduceAdd, Nat.reduceSub, ↓EU_rg, g0, g1, g11, g12, g13, g6, hr0, bin_shl64, hw, hor]
   exact ⟨_, by omega, i + 1, _, rfl, rfl, by omega, by simp (disch := first|exact dis|fail) only [go_sem, Int.reduceToNat, Nat.reduceMul, Nat.reduceAdd, Nat.reduceSub, ↓EU_rg, g0], by simp (disch := first|exact dis|fail) only [go_sem, Int.reduceToNat, Nat.reduceMul, Nat.reduceAdd, Nat.reduceSub, ↓EU_rg, g1], by simp (disch := first|exact dis|fail) only [go_sem, Int.reduceToNat, Nat.reduceMul, Nat.reduceAdd, Nat.reduceSub, ↓EU_rg, g11], by simp (disch := first|exact dis|fail) only [go_sem, Int.reduceToNat, Nat.reduceMul, Nat.reduceAdd, Nat.reduceSub, ↓EU_rg, g12], by simp (disch := first|exact dis|fail) only [go_sem, Int.reduceToNat, Nat.reduceMul, Nat.reduceAdd, Nat.reduceSub, ↓EU_rg], by simp (disch := first|exact dis|fail) only [go_sem, Int.reduceToNat, Nat.reduceMul, Nat.reduceAdd, Nat.reduceSub, ↓EU_rg]; rw [hrd2]⟩
  ·simp only [decide_eq_false_iff_not] at b1
   have : i = m := by omega
   subst this
   rw [List.take_of_length_le (by omega)] at g6
   simp (disch := first|exact dis|fail) only [go_sem, Int.reduceToNat, Nat.reduceMul, Nat.reduceAdd, Nat.reduceSub, ↓EU_rg]
   exact ⟨_, rfl, trivial, by simp (disch := first|exact dis|fail) only [go_sem, Int.reduceToNat, Nat.reduceMul, Nat.reduceAdd, Nat.reduceSub, ↓EU_rg, g0], by simp (disch := first|exact dis|fail) only [go_sem, Int.reduceToNat, Nat.reduceMul, Nat.reduceAdd, Nat.reduceSub, ↓EU_rg, g1], by simp (disch := first|exact dis|fail) only [go_sem, Int.reduceToNat, Nat.reduceMul, Nat.reduceAdd, Nat.reduceSub, ↓EU_rg, g6]⟩
 ·exact ⟨0, _, rfl, rfl, by omega, by simp (disch := first|exact dis|fail) only [go_sem, Int.reduceToNat, Nat.reduceMul, Nat.reduceAdd, Nat.reduceSub, ↓EU_rg], by simp (disch := first|exact dis|fail) only [go_sem, Int.reduceToNat, Nat.reduceMul, Nat.reduceAdd, Nat.reduceSub, ↓EU_rg], by simp (disch := first|exact dis|fail) only [go_sem, Int.reduceToNat, Nat.reduceMul, Nat.reduceAdd, Nat.reduceSub, ↓EU_rg], by simp (disch := first|exact dis|fail) only [go_sem, Int.reduceToNat, Nat.reduceMul, Nat.reduceAdd, Nat.reduceSub, ↓EU_rg], by simp (disch := first|exact dis|fail) only [go_sem, Int.reduceToNat, Nat.reduceMul, Nat.reduceAdd, Nat.reduceSub, ↓EU_rg]; all_goals rfl, by simp (disch := first|exact dis|fail) only [go_sem, Int.reduceToNat, Nat.reduceMul, Nat.reduceAdd, Nat.reduceSub, ↓EU_rg]; all_goals rfl⟩
 ·omega
 ·rintro ⟨q, _⟩ ⟨tm, rfl, rfl, g0, g1, g6⟩
  simp (disch := first|exact dis|fail) only [go_sem, Int.reduceToNat, Nat.reduceMul, Nat.reduceAdd, Nat.reduceSub, ↓EU_rg, g0, g1, g6, hu']
  exact ⟨u', rfl, su', bu'⟩
noncomputable def versionN (l : List UInt8) : Option Int := match l with
 | a :: b :: c :: _ => if a = 83 ∧ b = 72 then some (c.toNat : Int) else none
 | _ => none
theorem u8_eq (x y : UInt8) : ((x.toNat : Int) = (y.toNat : Int)) = (x = y) := by
 apply propext
 constructor
 ·intro h; exact UInt8.toNat_inj.1 (by omega)
 ·intro h; rw [h]
theorem version_ev (l : List UInt8) (s : Value) (h : Heap) (hs : SL byteE 1 h s l) (hl : l.length < 900000) :
  EF Tryz.prog O0 100 [s] h = some (match versionN l with | some v => .tuple ⟨[.int .i64 v, .bool true]⟩ | none => .tuple ⟨[.int .i64 0, .bool false]⟩, h) := by
 have : WPo (EF Tryz.prog O0 100 [s] h) fun q => q = (match versionN l with | some v => .tuple ⟨[.int .i64 v, .bool true]⟩ | none => .tuple ⟨[.int .i64 0, .bool false]⟩, h) := by
  rw [EF_body (O := O0) (by kernel_rfl) Tryz.func100 rfl (rs := [.tmp 2, .tmp 3]) rfl (bad := []) (by kernel_rfl) _ _ (m := 23) rfl]
  match l, hs with
  | [], hs => obtain ⟨a, c, rfl⟩ := hs.val; simp (disch := first|exact dis|fail) only [go_sem, Int.reduceToNat, Nat.reduceMul, Nat.reduceAdd, Nat.reduceSub, ↓EU_rg, dec_t, dec_f]; all_goals rfl
  | [x], hs => obtain ⟨a, c, rfl⟩ := hs.val; simp (disch := first|exact dis|fail) only [go_sem, Int.reduceToNat, Nat.reduceMul, Nat.reduceAdd, Nat.reduceSub, ↓EU_rg, dec_t, dec_f]; all_goals rfl
  | [x, y], hs => obtain ⟨a, c, rfl⟩ := hs.val; simp (disch := first|exact dis|fail) only [go_sem, Int.reduceToNat, Nat.reduceMul, Nat.reduceAdd, Nat.reduceSub, ↓EU_rg, dec_t, dec_f]; all_goals rfl
  | x :: y :: z :: l, hs =>
   obtain ⟨b, o, c, e, _, _, h0⟩ := hs.at (i := 0) (x := x) rfl rfl
   obtain ⟨b', o', c', e', _, _, h1⟩ := hs.at (i := 1) (x := y) rfl rfl
   obtain ⟨b'', o'', c'', e'', _, _, h2⟩ := hs.at (i := 2) (x := z) rfl rfl
   subst e
   cases e'
   cases e''
   replace h0 := h0 0 _ rfl
   replace h1 := h1 0 _ rfl
   replace h2 := h2 0 _ rfl
   have hv : versionN (x :: y :: z :: l) = if ((x.toNat : Int) = 83) ∧ ((y.toNat : Int) = 72) then some (z.toNat : Int) else none := by
    have e1 : (x.toNat : Int) = 83 ↔ x = 83 := iff_of_eq (u8_eq x 83)
    have e2 : (y.toNat : Int) = 72 ↔ y = 72 := iff_of_eq (u8_eq y 72)
    simp only [versionN, e1, e2]
   rw [hv]
   have hz := z.toNat_lt
   simp only [Nat.zero_mul, Nat.one_mul, Nat.add_zero] at h0 h1 h2
   simp (disch := first|exact dis|fail) only [go_sem, Int.reduceToNat, Nat.reduceMul, Nat.reduceAdd, Nat.reduceSub, ↓EU_rg, h0, h1, h2, dec_f]
   repeat' (((repeat refine WPo_ob ?_); (first | refine WPo_cond (fun hb => ?_) (fun hb => ?_) | refine WPo_gard (fun hb => ?_) (fun hb => ?_) | refine WPo_gardT (fun hb => ?_) (fun hb => ?_)) <;> (try simp only [Bool.not_eq_true', Bool.not_eq_false'] at hb)) <;> (simp (disch := first|exact dis|fail) only [go_sem, Int.reduceToNat, Nat.reduceMul, Nat.reduceAdd, Nat.reduceSub, ↓EU_rg, hb, h0, h1, h2]))
   all_goals simp_all
 obtain ⟨q, e, rfl⟩ := this
 exact e
noncomputable def openR (l : List UInt8) : List UInt8 × Int × Int := match openN l with
 | none => ([], 0, 9)
 | some b => match versionN b with
  | none => ([], 0, 8)
  | some v => (b.drop 3, v, 0)
theorem openN_len {l b : List UInt8} (h : openN l = some b) : b.length + 4 = l.length := by
 unfold openN at h
 split at h
 ·cases h
 ·split at h
  ·cases h; rw [List.length_take]; omega
  ·cases h
theorem open_ev (l : List UInt8) (s : Value) (h : Heap) (hs : SL byteE 1 h s l) (hl : l.length < 800000) :
  WPo (EF Tryz.prog O0 90 [s] h) fun q => ∃ u, q.1 = .tuple ⟨[u, .int .i64 (openR l).2.1, .int .i64 (openR l).2.2]⟩ ∧ Ext h q.2 ∧ SL byteE 1 q.2 u (openR l).1 ∧ Fresh h.next u := by
 rw [EF_body (O := O0) (by kernel_rfl) Tryz.func90 rfl (rs := [.tmp 2, .tmp 3, .tmp 4]) rfl (bad := []) (by kernel_rfl) _ _ (m := 26) rfl]
 simp (disch := first|exact dis|fail) only [go_sem, Int.reduceToNat, Nat.reduceMul, Nat.reduceAdd, Nat.reduceSub, ↓EU_rg]
 repeat refine WPo_ob ?_
 refine (get_ev l s h hs hl).mono ?_
 rintro ⟨w, h1⟩ ⟨x1, hw⟩
 unfold openR
 cases ho : openN l with
 | none =>
  rw [ho] at hw
  simp only at hw
  subst hw
  simp (disch := first|exact dis|fail) only [go_sem, Int.reduceToNat, Nat.reduceMul, Nat.reduceAdd, Nat.reduceSub, ↓EU_rg, dec_t, dec_f]
  exact ⟨_, rfl, x1, .nil, Fresh.nil _ _ _⟩
 | some b =>
  rw [ho] at hw
  obtain ⟨v, hw, hv, hf⟩ := hw
  simp only at hw
  subst hw
  have hbl := openN_len ho
  have e1 := version_ev b v h1 hv.sl (by omega)
  dsimp only
  cases hb : versionN b with
  | none =>
   rw [hb] at e1
   simp (disch := first|exact dis|fail) only [go_sem, Int.reduceToNat, Nat.reduceMul, Nat.reduceAdd, Nat.reduceSub, ↓EU_rg, dec_t, dec_f, e1]
   exact ⟨_, rfl, x1, .nil, Fresh.nil _ _ _⟩
  | some n =>
   rw [hb] at e1
   have h3 : 3 ≤ b.length := by
    unfold versionN at hb
    split at hb
    ·simp only [List.length_cons]; omega
    ·cases hb
   obtain ⟨u, hu, su, bu⟩ := cut_from fc_sl_37 hv.sl .i64 3 3 rfl h3
   simp (disch := first|exact dis|fail) only [go_sem, Int.reduceToNat, Nat.reduceMul, Nat.reduceAdd, Nat.reduceSub, ↓EU_rg, dec_t, dec_f, e1, hu]
   exact ⟨u, rfl, x1, su, fun i hi => hf i (bu i hi)⟩
noncomputable def encItem (x : Item) : List UInt8 := numB x.id 4 ++ (byteI x.w 0 :: numB x.lag 8)
noncomputable def encF (tag cur : Int) (l : List Item) : List UInt8 := [83, 72, 3, byteI tag 0] ++ (numB (cur + 1) 4 ++ (byteI (l.length : Int) 0 :: l.flatMap encItem))
theorem conv_i8 (n : Int) : wrapF .u8 n = ((byteI n 0).toNat : Int) := by
 rw [byteI_toNat]
 show Int.emod n 256 = (n / 2 ^ (8 * 0)) % 256
 rw [Nat.mul_zero, Int.pow_zero, Int.ediv_one]
 rfl
theorem encItem_len (x : Item) : (encItem x).length = 13 := by
 unfold encItem
 rw [List.length_append, List.length_cons, numB_len, numB_len]
theorem flatMap_enc_len (l : List Item) : (l.flatMap encItem).length = 13 * l.length := by
 induction l with
 | nil => rfl
 | cons x l ih => rw [List.flatMap_cons, List.length_append, ih, encItem_len, List.length_cons]; omega
theorem encF_len (tag cur : Int) (l : List Item) : (encF tag cur l).length = 9 + 13 * l.length := by
 unfold encF
 simp only [List.length_append, List.length_cons, List.length_nil, numB_len, flatMap_enc_len]
 omega
theorem imay_facts {x : Item} (h : imay x = true) : 0 ≤ x.id ∧ x.id ≤ 1073741824 ∧ 1 ≤ x.w ∧ x.w ≤ 20 ∧ -1125899906842624 ≤ x.lag ∧ x.lag ≤ 1125899906842624 := by
 unfold imay wgood at h
 simp only [Bool.and_eq_true, decide_eq_true_eq] at h
 omega
theorem ordOk_may : ∀ (l : List Item) (p : Option Item), ordOk p l = true → ∀ x ∈ l, imay x = true
 | [], _, _, _, h => by cases h
 | y :: l, p, h, x, hx => by
  have hy : imay y = true ∧ ordOk (some y) l = true := by
   cases p with
   | none => simp only [ordOk, Bool.and_eq_true] at h; exact h
   | some z => simp only [ordOk, Bool.and_eq_true] at h; exact ⟨h.1, h.2.2⟩
  rcases List.mem_cons.1 hx with rfl | hx
  ·exact hy.1
  ·exact ordOk_may l _ hy.2 x hx
theorem good_facts {cur : Int} {l : List Item} (h : goodF cur l = true) : l.length ≤ 64 ∧ -1 ≤ cur ∧ cur ≤ 1073741824 ∧ ∀ x ∈ l, imay x = true := by
 unfold goodF at h
 simp only [Bool.and_eq_true, decide_eq_true_eq, Bool.or_eq_true] at h
 obtain ⟨h1, h2, h3, _⟩ := h
 have hm := ordOk_may l none h3
 refine ⟨h1, ?_, ?_, hm⟩ <;> rcases h2 with h2 | h2
 ·omega
 ·obtain ⟨x, hx, hq⟩ := List.any_eq_true.1 h2
  have := imay_facts (hm x hx)
  simp only [byId, decide_eq_true_eq] at hq
  omega
 ·omega
 ·obtain ⟨x, hx, hq⟩ := List.any_eq_true.1 h2
  have := imay_facts (hm x hx)
  simp only [byId, decide_eq_true_eq] at hq
  omega
theorem cput_ev (tag cur : Int) (l : List Item) (s : Value) (h : Heap) (hs : SL itemE 3 h s l) (hl : l.length < 800000) :
  WPo (EF Tryz.prog O0 74 [.int .i64 tag, formV cur s] h) fun q => Ext h q.2 ∧ (cgood tag cur l = false → q.1 = .tuple ⟨[.slice none 0 1, .int .i64 1]⟩) ∧ (cgood tag cur l = true → ∃ u, q.1 = .tuple ⟨[u, .int .i64 0]⟩ ∧ OW byteE 1 q.2 u (sealN (encF tag cur l)) ∧ Fresh h.next u) := by
 have hG := cgood_ev tag cur l s (h.push (.cells [.int .i64 cur, s] 0)) (hs.ext ((Ext.refl h).push _)) (by omega)
 rw [EF_body (O := O0) (by kernel_rfl) Tryz.func74 rfl (rs := [.tmp 4, .tmp 5]) rfl (bad := []) (by kernel_rfl) _ _ (m := 51) rfl]
 obtain ⟨a, c, hv⟩ := hs.val
 subst hv
 unfold formV at hG ⊢
 simp (disch := first|exact dis|fail) only [go_sem, Int.reduceToNat, Nat.reduceMul, Nat.reduceAdd, Nat.reduceSub, ↓EU_rg]
 repeat refine WPo_ob ?_
 refine hG.bind fun h1 x1 => ?_
 have hx1 := ((Ext.refl h).push (.cells [.int .i64 cur, .slice a l.length c] 0)).trans x1
 have hF1 : h1.get h.next = .cells [.int .i64 cur, .slice a l.length c] 0 := by simp (disch := first|exact dis|fail) only [go_sem, Int.reduceToNat, Nat.reduceMul, Nat.reduceAdd, Nat.reduceSub, ↓EU_rg, x1.old]
 cases hg : cgood tag cur l with
 | false =>
  simp (disch := first|exact dis|fail) only [go_sem, Int.reduceToNat, Nat.reduceMul, Nat.reduceAdd, Nat.reduceSub, ↓EU_rg]
  exact ⟨hx1, by simp, by simp⟩
 | true =>
  have hgf : goodF cur l = true := by
   unfold cgood at hg
   simp only [Bool.and_eq_true] at hg
   exact hg.2
  obtain ⟨f1, f2, f3, f4⟩ := good_facts hgf
  have hn1 := x1.le
  rw [next_push] at hn1
  simp (disch := first|exact dis|fail) only [go_sem, Int.reduceToNat, Nat.reduceMul, Nat.reduceAdd, Nat.reduceSub, ↓EU_rg, hF1, conv_i8]
  repeat refine WPo_ob ?_
  refine (number_ev [83, 72, 3, byteI tag 0] _ (cur + 1) 4 _ (OW.lit byteE_len h1 [83, 72, 3, byteI tag 0]) (by decide) (by simp)).mono ?_
  rintro ⟨v2, h2⟩ ⟨ho2, gr2⟩
  simp only at ho2 gr2
  obtain ⟨x2, hf2⟩ := gr2.new
  have hF2 : h2.get h.next = .cells [.int .i64 cur, .slice a l.length c] 0 := by rw [x2.old _ (by omega)]; exact hF1
  simp (disch := first|exact dis|fail) only [go_sem, Int.reduceToNat, Nat.reduceMul, Nat.reduceAdd, Nat.reduceSub, ↓EU_rg, hF2, conv_i8]
  repeat refine WPo_ob ?_
  refine append_own (h0 := h1) (l := [83, 72, 3, byteI tag 0] ++ numB (cur + 1) 4) (l' := [byteI (l.length : Int) 0]) fc_ap_37_37 (fun _ => rfl) (by decide) byteE_scal (x2.push _) (ho2.ext ((Ext.refl h2).push _)) hf2 (OW.lit byteE_len h2 [byteI (l.length : Int) 0]).sl (by simp [numB_len]) (by simp [numB_len]) fun v3 h3 ho3 hf3 x3 _ _ => ?_
  have hF3 : h3.get h.next = .cells [.int .i64 cur, .slice a l.length c] 0 := by rw [x3.old _ (by omega)]; exact hF1
  simp (disch := first|exact dis|fail) only [go_sem, Int.reduceToNat, Nat.reduceMul, Nat.reduceAdd, Nat.reduceSub, ↓EU_rg, hF3]
  repeat refine WPo_ob ?_
  have hpre : encF tag cur l = ([83, 72, 3, byteI tag 0] ++ numB (cur + 1) 4 ++ [byteI (l.length : Int) 0]) ++ l.flatMap encItem := by
   unfold encF; simp only [List.append_assoc, List.cons_append, List.nil_append]
  generalize ([83, 72, 3, byteI tag 0] ++ numB (cur + 1) 4 ++ [byteI (l.length : Int) 0]) = pre at *
  have hpl : pre.length + 13 * l.length < 800000 := by
   have := encF_len tag cur l
   rw [hpre, List.length_append, flatMap_enc_len] at this
   omega
  refine (LP_rule (fun m st => ∃ (i : Nat) (tm : Fr) (h' : Heap) (v : Value), st = ⟨tm, h', []⟩ ∧ m = l.length - i ∧ i ≤ l.length ∧ Fr.get tm 6 = v ∧ Fr.get tm 28 = .slice a l.length c ∧ Fr.get tm 29 = .int .i64 l.length ∧ Fr.get tm 30 = .int .i64 i ∧ OW byteE 1 h' v (pre ++ (l.take i).flatMap encItem) ∧ Fresh h1.next v ∧ Ext h1 h')
   (fun q => ∃ tm h' v, q.2 = ⟨tm, h', []⟩ ∧ q.1 = .exit 0 ∧ Fr.get tm 6 = v ∧ OW byteE 1 h' v (pre ++ l.flatMap encItem) ∧ Fresh h1.next v ∧ Ext h1 h') ?_ l.length _ _ ?_ ?_).mono ?_
  ·rintro m _ ⟨i, tm, h', v, rfl, rfl, hi, g6, g28, g29, g30, ho', hf', x'⟩
   simp (disch := first|exact dis|fail) only [go_sem, Int.reduceToNat, Nat.reduceMul, Nat.reduceAdd, Nat.reduceSub, ↓EU_rg, g6, g28, g29, g30]
   ((repeat refine WPo_ob ?_); (first | refine WPo_cond (fun b1 => ?_) (fun b1 => ?_) | refine WPo_gard (fun b1 => ?_) (fun b1 => ?_) | refine WPo_gardT (fun b1 => ?_) (fun b1 => ?_)) <;> (try simp only [Bool.not_eq_true', Bool.not_eq_false'] at b1))
   ·have b1' := b1
    simp only [decide_eq_true_eq] at b1'
    have hi' : i < l.length := by omega
    obtain ⟨x, hx⟩ : ∃ x, l[i]? = some x := ⟨_, List.getElem?_eq_getElem hi'⟩
    obtain ⟨b, o, c', e, hb', hrd, hr⟩ := (hs.ext hx1).at hx rfl
    cases e
    rw [← x'.old b hb'] at hrd hr
    have hil : (l.take i).length = i := by rw [List.length_take]; omega
    have hfl := flatMap_enc_len (l.take i)
    rw [hil] at hfl
    have hnx : pre ++ (l.take (i + 1)).flatMap encItem = pre ++ (l.take i).flatMap encItem ++ numB x.id 4 ++ [byteI x.w 0] ++ numB x.lag 8 := by
     rw [List.take_add_one, hx]
     simp [encItem]
    simp (disch := first|exact dis|fail) only [go_sem, Int.reduceToNat, Nat.reduceMul, Nat.reduceAdd, Nat.reduceSub, ↓EU_rg, g6, g28, g29, g30, hrd]
    repeat refine WPo_ob ?_
    refine (number_ev _ v x.id 4 _ (ho'.ext ((Ext.refl h').push _)) (by decide) (by rw [List.length_append]; omega)).mono ?_
    rintro ⟨v4, h4⟩ ⟨ho4, gr4⟩
    simp only at ho4 gr4
    have hv' : ¬ blkOf v h'.next := fun q => by have := ho'.lt q; omega
    have hv4 : ¬ blkOf v4 h'.next := fun q => by
     rcases gr4.src _ q with q | q
     ·exact hv' q
     ·rw [next_push] at q; omega
    have hc4 : h4.get h'.next = .cells (itemE x) 0 := by rw [gr4.old _ (by rw [next_push]; omega) hv']; exact get_push_new _ _
    have hn4 := gr4.le
    rw [next_push] at hn4
    simp (disch := first|exact dis|fail) only [go_sem, Int.reduceToNat, Nat.reduceMul, Nat.reduceAdd, Nat.reduceSub, ↓EU_rg, g28, g29, g30, hc4, conv_i8]
    repeat refine WPo_ob ?_
    refine append_gr (l := pre ++ (l.take i).flatMap encItem ++ numB x.id 4) (l' := [byteI x.w 0]) fc_ap_37_37 (fun _ => rfl) (by decide) byteE_scal (ho4.ext ((Ext.refl h4).push _)) (OW.lit byteE_len h4 [byteI x.w 0]).sl (by simp only [List.length_append, numB_len, List.length_cons, List.length_nil]; omega) (by simp only [List.length_append, numB_len, List.length_cons, List.length_nil]; omega) fun v5 h5 ho5 gr5 => ?_
    have hc5 : h5.get h'.next = .cells (itemE x) 0 := by rw [gr5.old _ (by rw [next_push]; omega) hv4, get_push_old _ (by omega)]; exact hc4
    have hn5 := gr5.le
    rw [next_push] at hn5
    simp (disch := first|exact dis|fail) only [go_sem, Int.reduceToNat, Nat.reduceMul, Nat.reduceAdd, Nat.reduceSub, ↓EU_rg, g28, g29, g30, hc5]
    repeat refine WPo_ob ?_
    refine (number_ev _ v5 x.lag 8 _ ho5 (by decide) (by simp only [List.length_append, numB_len, List.length_cons, List.length_nil]; omega)).mono ?_
    rintro ⟨v6, h6⟩ ⟨ho6, gr6⟩
    simp only at ho6 gr6
    rw [← hnx] at ho6
    have gr : Gr v (h'.push (.cells (itemE x) 0)) v6 h6 := (((gr4.push _).trans gr5)).trans gr6
    simp (disch := first|exact dis|fail) only [go_sem, Int.reduceToNat, Nat.reduceMul, Nat.reduceAdd, Nat.reduceSub, ↓EU_rg, g28, g29, g30]
    exact ⟨_, by omega, i + 1, _, h6, v6, rfl, rfl, by omega, by simp (disch := first|exact dis|fail) only [go_sem, Int.reduceToNat, Nat.reduceMul, Nat.reduceAdd, Nat.reduceSub, ↓EU_rg], by simp (disch := first|exact dis|fail) only [go_sem, Int.reduceToNat, Nat.reduceMul, Nat.reduceAdd, Nat.reduceSub, ↓EU_rg, g28], by simp (disch := first|exact dis|fail) only [go_sem, Int.reduceToNat, Nat.reduceMul, Nat.reduceAdd, Nat.reduceSub, ↓EU_rg, g29], by simp (disch := first|exact dis|fail) only [go_sem, Int.reduceToNat, Nat.reduceMul, Nat.reduceAdd, Nat.reduceSub, ↓EU_rg], ho6, gr.fresh hf' (by have := x'.le; rw [next_push]; omega), gr.ext0 (x'.push _) hf'⟩
   ·simp only [decide_eq_false_iff_not] at b1
    have : i = l.length := by omega
    subst this
    rw [List.take_length] at ho'
    simp (disch := first|exact dis|fail) only [go_sem, Int.reduceToNat, Nat.reduceMul, Nat.reduceAdd, Nat.reduceSub, ↓EU_rg]
    exact ⟨_, _, v, rfl, trivial, by simp (disch := first|exact dis|fail) only [go_sem, Int.reduceToNat, Nat.reduceMul, Nat.reduceAdd, Nat.reduceSub, ↓EU_rg, g6], ho', hf', x'⟩
  ·refine ⟨0, _, h3, v3, rfl, rfl, by omega, by simp (disch := first|exact dis|fail) only [go_sem, Int.reduceToNat, Nat.reduceMul, Nat.reduceAdd, Nat.reduceSub, ↓EU_rg], by simp (disch := first|exact dis|fail) only [go_sem, Int.reduceToNat, Nat.reduceMul, Nat.reduceAdd, Nat.reduceSub, ↓EU_rg], by simp (disch := first|exact dis|fail) only [go_sem, Int.reduceToNat, Nat.reduceMul, Nat.reduceAdd, Nat.reduceSub, ↓EU_rg], by simp (disch := first|exact dis|fail) only [go_sem, Int.reduceToNat, Nat.reduceMul, Nat.reduceAdd, Nat.reduceSub, ↓EU_rg]; all_goals rfl, ?_, hf3, x3⟩
   rw [List.take_zero, List.flatMap_nil, List.append_nil]; exact ho3
  ·omega
  ·rintro ⟨q, _⟩ ⟨tm, h', v, rfl, rfl, g6, ho', hf', x'⟩
   simp (disch := first|exact dis|fail) only [go_sem, Int.reduceToNat, Nat.reduceMul, Nat.reduceAdd, Nat.reduceSub, ↓EU_rg, g6]
   repeat refine WPo_ob ?_
   refine (put_ev _ v h' ho'.sl (by rw [List.length_append, flatMap_enc_len]; omega)).mono ?_
   rintro ⟨u, h''⟩ ⟨hou, hfu, xu⟩
   simp only at hou hfu xu
   simp (disch := first|exact dis|fail) only [go_sem, Int.reduceToNat, Nat.reduceMul, Nat.reduceAdd, Nat.reduceSub, ↓EU_rg]
   rw [hpre]
   refine ⟨hx1.trans (x'.trans xu), by simp, fun _ => ⟨u, rfl, hou, hfu.mono ?_⟩⟩
   have := x'.le
   have := hx1.le
   omega
theorem sealN_len (l : List UInt8) : (sealN l).length = l.length + 4 := by
 unfold sealN tailN
 rw [List.length_append]; rfl
theorem cgood_facts {tag cur : Int} {l : List Item} (h : cgood tag cur l = true) : 0 ≤ tag ∧ tag ≤ 2 ∧ goodF cur l = true := by
 unfold cgood at h
 simp only [Bool.and_eq_true, decide_eq_true_eq] at h
 exact ⟨h.1.1, h.1.2, h.2⟩
noncomputable def decItem (b : List UInt8) : Item := ⟨readN (b.take 4), readN ((b.drop 4).take 1), readN ((b.drop 5).take 8)⟩
noncomputable def decs : Nat → List UInt8 → List Item
 | 0, _ => []
 | n + 1, b => decItem b :: decs n (b.drop 13)
noncomputable def bN (b : List UInt8) (i : Nat) : Nat := (b.getD i 0).toNat
theorem readN_pos {l : List UInt8} (h : l.length ≤ 4) : 0 ≤ readN l ∧ readN l < 4294967296 := by
 have h1 := beN_lt l
 have h2 : 256 ^ l.length ≤ 256 ^ 4 := Nat.pow_le_pow_right (by decide) h
 unfold readN sgn64
 rw [if_pos (by omega)]
 omega
theorem decs_len : ∀ (n : Nat) (b : List UInt8), (decs n b).length = n
 | 0, _ => rfl
 | n + 1, b => by rw [decs, List.length_cons, decs_len n]
theorem decs_snoc : ∀ (i : Nat) (b : List UInt8), decs (i + 1) b = decs i b ++ [decItem (b.drop (13 * i))]
 | 0, b => rfl
 | i + 1, b => by
  rw [decs, decs_snoc i, decs, List.cons_append, List.drop_drop, show 13 * (i + 1) = 13 + 13 * i by omega]
noncomputable def bodyR (b : List UInt8) : Int × Int × List Item × Int :=
 if b.length < 6 ∨ b.length ≠ 6 + 13 * bN b 5 then (0, 0, [], 8)
 else if cgood (bN b 0) (readN ((b.drop 1).take 4) - 1) (decs (bN b 5) (b.drop 6)) then (bN b 0, readN ((b.drop 1).take 4) - 1, decs (bN b 5) (b.drop 6), 0) else (0, 0, [], 11)
noncomputable def getR (l : List UInt8) : Int × Int × List Item × Int :=
 if (openR l).2.2 ≠ 0 then (0, 0, [], (openR l).2.2) else if (openR l).2.1 ≠ 3 then (0, 0, [], 10) else bodyR (openR l).1
theorem cget_ev (l : List UInt8) (s : Value) (h : Heap) (hs : SL byteE 1 h s l) (hl : l.length < 700000) :
  WPo (EF Tryz.prog O0 83 [s] h) fun q => ∃ v, q.1 = .tuple ⟨[.int .i64 (getR l).1, formV (getR l).2.1 v, .int .i64 (getR l).2.2.2]⟩ ∧ OW itemE 3 q.2 v (getR l).2.2.1 ∧ Fresh h.next v ∧ Ext h q.2 := by
 rw [EF_body (O := O0) (by kernel_rfl) Tryz.func83 rfl (rs := [.tmp 2, .cell 3 24, .tmp 4]) rfl (bad := []) (by kernel_rfl) _ _ (m := 94) rfl]
 unfold formV
 simp (disch := first|exact dis|fail) only [go_sem, simprocAttr, ↓EU_rg]
 repeat refine WPo_ob ?_
 refine (open_ev l s _ (hs.ext ((Ext.refl h).push _)) (by omega)).mono ?_
 rintro ⟨w, h1⟩ ⟨u, rfl, x1, su, fu⟩
 simp only at x1 su fu
 have hn1 := x1.le
 rw [next_push] at hn1
 have hc1 : h1.get h.next = .cells [.int .i64 0, .slice none 0 1] 0 := by rw [x1.old _ (by rw [next_push]; omega)]; exact get_push_new _ _
 have hol : (openR l).1.length ≤ l.length := by
  unfold openR
  cases ho : openN l with
  | none => exact Nat.zero_le _
  | some b =>
   have := openN_len ho
   dsimp only
   cases hb : versionN b with
   | none => exact Nat.zero_le _
   | some v => dsimp only; rw [List.length_drop]; omega
 have hgR : getR l = if (openR l).2.2 ≠ 0 then (0, 0, [], (openR l).2.2) else if (openR l).2.1 ≠ 3 then (0, 0, [], 10) else bodyR (openR l).1 := rfl
 revert hgR su hol
 generalize (openR l).2.2 = e
 generalize (openR l).2.1 = vv
 generalize (openR l).1 = b
 intro su hol hgR
 have xe : Ext h h1 := ((Ext.refl h).push _).trans x1
 have hb5 : 6 ≤ b.length → ∀ hx : Heap, SL byteE 1 hx u b → ∀ i, i < 6 → ∃ B o c, u = .slice (some ⟨B, o, none⟩) b.length c ∧ rdc1 (hx.get B) (o + i) = some (.int .u8 (bN b i)) := by
  intro h6 hx sx i hi
  obtain ⟨x, hx'⟩ : ∃ x, b[i]? = some x := ⟨_, List.getElem?_eq_getElem (by omega)⟩
  obtain ⟨B, o, c, e, _, _, hr⟩ := sx.at hx' rfl
  have := hr 0 _ rfl
  rw [Nat.mul_one, Nat.add_zero] at this
  refine ⟨B, o, c, e, ?_⟩
  rw [this]
  unfold bN
  rw [List.getD_eq_getElem?_getD, hx']; rfl
 obtain ⟨au, ku, hu⟩ := su.val
 simp (disch := first|exact dis|fail) only [go_sem, simprocAttr, ↓EU_rg, hc1]
 ((repeat refine WPo_ob ?_); (first | refine WPo_cond (fun b1 => ?_) (fun b1 => ?_) | refine WPo_gard (fun b1 => ?_) (fun b1 => ?_) | refine WPo_gardT (fun b1 => ?_) (fun b1 => ?_)) <;> (try simp only [Bool.not_eq_true', Bool.not_eq_false'] at b1))
 ·have b1' := b1
  simp only [decide_eq_false_iff_not] at b1'
  rw [if_pos b1'] at hgR
  rw [hgR]
  simp (disch := first|exact dis|fail) only [go_sem, simprocAttr, ↓EU_rg, hc1]
  exact ⟨_, rfl, OW.nil, Fresh.nil _ _ _, xe.set _ _ (Nat.le_refl _)⟩
 ·have b1' := b1
  simp only [decide_eq_true_eq] at b1'
  rw [if_neg (by omega)] at hgR
  simp (disch := first|exact dis|fail) only [go_sem, simprocAttr, ↓EU_rg, hc1, b1]
  ((repeat refine WPo_ob ?_); (first | refine WPo_cond (fun b2 => ?_) (fun b2 => ?_) | refine WPo_gard (fun b2 => ?_) (fun b2 => ?_) | refine WPo_gardT (fun b2 => ?_) (fun b2 => ?_)) <;> (try simp only [Bool.not_eq_true', Bool.not_eq_false'] at b2))
  ·have b2' := b2
   simp only [decide_eq_false_iff_not] at b2'
   rw [if_pos b2'] at hgR
   rw [hgR]
   simp (disch := first|exact dis|fail) only [go_sem, simprocAttr, ↓EU_rg, hc1]
   exact ⟨_, rfl, OW.nil, Fresh.nil _ _ _, xe.set _ _ (Nat.le_refl _)⟩
  ·have b2' := b2
   simp only [decide_eq_true_eq] at b2'
   rw [if_neg (by omega)] at hgR
   unfold bodyR at hgR
   subst hu
   simp (disch := first|exact dis|fail) only [go_sem, simprocAttr, ↓EU_rg, hc1, b2]
   ((repeat refine WPo_ob ?_); (first | refine WPo_cond (fun b3 => ?_) (fun b3 => ?_) | refine WPo_gard (fun b3 => ?_) (fun b3 => ?_) | refine WPo_gardT (fun b3 => ?_) (fun b3 => ?_)) <;> (try simp only [Bool.not_eq_true', Bool.not_eq_false'] at b3))
   ·have b3' := b3
    simp only [decide_eq_false_iff_not] at b3'
    obtain ⟨B5, o5, c5, e5, r5⟩ := hb5 (by omega) h1 su 5 (by decide)
    cases e5
    have hw5 : (bN b 5 : Int) < 256 := by unfold bN; have := (b.getD 5 0).toNat_lt; omega
    have hw5' : wrapF .i64 (bN b 5 : Int) = bN b 5 := wrap64 (by omega)
    have hsz := size_ev (bN b 5) h1 (by omega)
    simp (disch := first|exact dis|fail) only [go_sem, simprocAttr, ↓EU_rg, r5, hw5', hsz, b3]
    ((repeat refine WPo_ob ?_); (first | refine WPo_cond (fun b4 => ?_) (fun b4 => ?_) | refine WPo_gard (fun b4 => ?_) (fun b4 => ?_) | refine WPo_gardT (fun b4 => ?_) (fun b4 => ?_)) <;> (try simp only [Bool.not_eq_true', Bool.not_eq_false'] at b4))
    ·have b4' := b4
     simp only [decide_eq_false_iff_not] at b4'
     rw [if_pos (.inr (by omega))] at hgR
     rw [hgR]
     simp (disch := first|exact dis|fail) only [go_sem, simprocAttr, ↓EU_rg, hc1, b4]
     exact ⟨_, rfl, OW.nil, Fresh.nil _ _ _, xe.set _ _ (Nat.le_refl _)⟩
    ·have b4' := b4
     simp only [decide_eq_true_eq] at b4'
     have hbl : b.length = 6 + 13 * bN b 5 := by omega
     rw [if_neg (by omega)] at hgR
     obtain ⟨B0, o0, c0, e0, r0⟩ := hb5 (by omega) h1 su 0 (by decide)
     cases e0
     have hw0 : (bN b 0 : Int) < 256 := by unfold bN; have := (b.getD 0 0).toNat_lt; omega
     have hw0' : wrapF .i64 (bN b 0 : Int) = bN b 0 := wrap64 (by omega)
     obtain ⟨u1, hu1, su1, bu1⟩ := cut_from fc_sl_37 su .i64 1 1 rfl (by omega)
     rw [Nat.add_zero] at r0
     simp (disch := first|exact dis|fail) only [go_sem, simprocAttr, ↓EU_rg, r0, hw0', b4, hu1]
     repeat refine WPo_ob ?_
     refine (read_ev _ u1 4 h1 su1 (by rw [List.length_drop]; omega) (by decide) (by rw [List.length_drop]; omega)).mono ?_
     rintro _ ⟨u2, rfl, su2, bu2⟩
     have hcur := readN_pos (l := (b.drop 1).take 4) (by rw [List.length_take]; omega)
     have hcw : wrapF .i64 (readN ((b.drop 1).take 4) - 1) = readN ((b.drop 1).take 4) - 1 := wrap64 (by omega)
     generalize hcu : readN ((b.drop 1).take 4) - 1 = cur at *
     obtain ⟨u3, hu3, su3, bu3⟩ := cut_from fc_sl_37 (su2.ext ((Ext.refl h1).push (.cells [.int .i64 cur, .slice none 0 1] 0))) .i64 1 1 rfl (by rw [List.length_drop, List.length_drop]; omega)
     rw [List.drop_drop, List.drop_drop] at su3
     have hb3 : ∀ i, blkOf u3 i → i < h1.next := fun i hi => su2.lt (bu3 i hi)
     rw [show b.drop (1 + 4 + 1) = b.drop 6 from rfl] at su3
     generalize hrest : b.drop 6 = rest at su3 hgR
     have hrl : rest.length = 13 * bN b 5 := by rw [← hrest, List.length_drop]; omega
     generalize hn : bN b 5 = n at *
     simp (disch := first|exact dis|fail) only [go_sem, simprocAttr, ↓EU_rg, hcu, hcw, hu3]
     repeat refine WPo_ob ?_
     refine (LP_rule (fun m st => ∃ (i : Nat) (tm : Fr) (h' : Heap) (u v : Value), st = ⟨tm, h', []⟩ ∧ m = n - i ∧ i ≤ n ∧ Fr.get tm 0 = u ∧ Fr.get tm 3 = ptr h.next 0 ∧ Fr.get tm 7 = .int .i64 (bN b 0) ∧ Fr.get tm 9 = ptr h1.next 0 ∧ SL byteE 1 h' u (rest.drop (13 * i)) ∧ (∀ i, blkOf u i → i < h1.next) ∧ h'.get h1.next = .cells [.int .i64 cur, v] 0 ∧ OW itemE 3 h' v (decs i rest) ∧ Fresh (h1.next + 1) v ∧ Ext h1 h' ∧ h1.next < h'.next)
      (fun q => ∃ tm h' v, q.2 = ⟨tm, h', []⟩ ∧ q.1 = .exit 1 ∧ Fr.get tm 3 = ptr h.next 0 ∧ Fr.get tm 7 = .int .i64 (bN b 0) ∧ Fr.get tm 9 = ptr h1.next 0 ∧ h'.get h1.next = .cells [.int .i64 cur, v] 0 ∧ OW itemE 3 h' v (decs n rest) ∧ Fresh (h1.next + 1) v ∧ Ext h1 h' ∧ h1.next < h'.next) ?_ n _ _ ?_ ?_).mono ?_
     ·rintro m _ ⟨i, tm, h', u, v, rfl, rfl, hi, g0, g3, g7, g9, sui, hui, hcB, hov, hfv, x', hlt⟩
      obtain ⟨aq, kq, rfl⟩ := sui.val
      have hql : (rest.drop (13 * i)).length = 13 * n - 13 * i := by rw [List.length_drop, hrl]
      simp (disch := first|exact dis|fail) only [go_sem, simprocAttr, ↓EU_rg, g0, g3, g7, g9]
      ((repeat refine WPo_ob ?_); (first | refine WPo_cond (fun b5 => ?_) (fun b5 => ?_) | refine WPo_gard (fun b5 => ?_) (fun b5 => ?_) | refine WPo_gardT (fun b5 => ?_) (fun b5 => ?_)) <;> (try simp only [Bool.not_eq_true', Bool.not_eq_false'] at b5))
      ·have b5' := b5
       simp only [decide_eq_true_eq] at b5'
       have hin : i < n := by omega
       simp (disch := first|exact dis|fail) only [go_sem, simprocAttr, ↓EU_rg, g0, g3, g7, g9]
       repeat refine WPo_ob ?_
       refine (read_ev _ _ 4 h' sui (by omega) (by decide) (by omega)).mono ?_
       rintro _ ⟨w1, rfl, sw1, bw1⟩
       simp (disch := first|exact dis|fail) only [go_sem, simprocAttr, ↓EU_rg, g3, g7, g9]
       repeat refine WPo_ob ?_
       refine (read_ev _ _ 1 h' sw1 (by rw [List.length_drop]; omega) (by decide) (by rw [List.length_drop]; omega)).mono ?_
       rintro _ ⟨w2, rfl, sw2, bw2⟩
       simp (disch := first|exact dis|fail) only [go_sem, simprocAttr, ↓EU_rg, g3, g7, g9]
       repeat refine WPo_ob ?_
       refine (read_ev _ _ 8 h' sw2 (by rw [List.length_drop, List.length_drop]; omega) (by decide) (by rw [List.length_drop, List.length_drop]; omega)).mono ?_
       rintro _ ⟨w3, rfl, sw3, bw3⟩
       have hd5 : List.drop 1 (List.drop 4 (rest.drop (13 * i))) = (rest.drop (13 * i)).drop 5 := by rw [List.drop_drop]
       have hd13 : List.drop 8 (List.drop 1 (List.drop 4 (rest.drop (13 * i)))) = rest.drop (13 * (i + 1)) := by simp only [List.drop_drop]; congr 1
       rw [hd13] at sw3
       have hsn := decs_snoc i rest
       generalize hit : decItem (rest.drop (13 * i)) = it at hsn
       have hitE : itemE it = [.int .i64 (readN ((rest.drop (13 * i)).take 4)), .int .i64 (readN (((rest.drop (13 * i)).drop 4).take 1)), .int .i64 (readN (((rest.drop (13 * i)).drop 5).take 8))] := by rw [← hit]; rfl
       simp (disch := first|exact dis|fail) only [go_sem, simprocAttr, ↓EU_rg, g3, g7, g9, hcB, hd5]
       repeat refine WPo_ob ?_
       have hlit := OW.lit itemE_len h' [it]
       rw [List.flatMap_cons, List.flatMap_nil, List.append_nil, hitE] at hlit
       have hm1 : ∀ j, blkOf v j → h1.next ≤ j := fun j hj => by have := hfv j hj; omega
       refine append_gr (l := decs i rest) (l' := [it]) fc_ap_22_22 itemE_len (by decide) itemE_scal (hov.ext ((Ext.refl h').push _)) hlit.sl (by rw [decs_len]; simp only [List.length_cons, List.length_nil]; omega) (by rw [decs_len]; simp only [List.length_cons, List.length_nil]; omega) fun v' h'' hov' gr => ?_
       rw [← hsn] at hov'
       have hnv : ¬ blkOf v h1.next := fun q => by have := hfv _ q; omega
       have hcB' : h''.get h1.next = .cells [.int .i64 cur, v] 0 := by rw [gr.old _ (by rw [next_push]; omega) hnv, get_push_old _ hlt]; exact hcB
       have hn' := gr.le
       rw [next_push] at hn'
       have hfv' : Fresh (h1.next + 1) v' := gr.fresh hfv (by rw [next_push]; omega)
       obtain ⟨av, kv, rfl⟩ := hov'.val
       rw [decs_len] at *
       simp (disch := first|exact dis|fail) only [go_sem, simprocAttr, ↓EU_rg, g3, g7, g9, hcB']
       have hm2 : Mod (fun j => h1.next ≤ j) h' (h''.set h1.next (.cells [.int .i64 cur, .slice av (i + 1) kv] 0)) := ((((Mod.refl _ h').push _).trans (gr.mod.mono fun j _ hj => hm1 j hj))).set _ _ fun _ => Nat.le_refl _
       refine ⟨_, by omega, i + 1, _, _, w3, _, rfl, rfl, by omega, by simp (disch := first|exact dis|fail) only [go_sem, simprocAttr, ↓EU_rg], by simp (disch := first|exact dis|fail) only [go_sem, simprocAttr, ↓EU_rg, g3], by simp (disch := first|exact dis|fail) only [go_sem, simprocAttr, ↓EU_rg, g7], by simp (disch := first|exact dis|fail) only [go_sem, simprocAttr, ↓EU_rg, g9], sw3.modB hm2 (fun j hj => by have := hui j (bw1 j (bw2 j (bw3 j hj))); omega), fun j hj => hui j (bw1 j (bw2 j (bw3 j hj))), by simp (disch := first|exact dis|fail) only [go_sem, simprocAttr, ↓EU_rg], hov'.mod (Mod.set (S := fun j => j = h1.next) (Mod.refl _ _) _ _ (fun _ => rfl)) (fun j hj q => by have := hfv' j hj; omega), hfv', ?_, by rw [next_set]; omega⟩
       exact ⟨Nat.le_trans x'.le hm2.le, fun j hj => (hm2.old j (Nat.lt_of_lt_of_le hj x'.le) (by omega)).trans (x'.old j hj)⟩
      ·have b5' := b5
       simp only [decide_eq_false_iff_not] at b5'
       have : i = n := by omega
       subst this
       simp (disch := first|exact dis|fail) only [go_sem, simprocAttr, ↓EU_rg]
       exact ⟨_, _, v, rfl, trivial, by simp (disch := first|exact dis|fail) only [go_sem, simprocAttr, ↓EU_rg, g3], by simp (disch := first|exact dis|fail) only [go_sem, simprocAttr, ↓EU_rg, g7], by simp (disch := first|exact dis|fail) only [go_sem, simprocAttr, ↓EU_rg, g9], hcB, hov, hfv, x', hlt⟩
     ·refine ⟨0, _, _, u3, _, rfl, rfl, by omega, by simp (disch := first|exact dis|fail) only [go_sem, simprocAttr, ↓EU_rg], by simp (disch := first|exact dis|fail) only [go_sem, simprocAttr, ↓EU_rg], by simp (disch := first|exact dis|fail) only [go_sem, simprocAttr, ↓EU_rg], by simp (disch := first|exact dis|fail) only [go_sem, simprocAttr, ↓EU_rg], su3, hb3, get_push_new _ _, OW.nil, Fresh.nil _ _ _, (Ext.refl _).push _, by rw [next_push]; omega⟩
     ·omega
     ·rintro ⟨q, _⟩ ⟨tm, h', v, rfl, rfl, g3, g7, g9, hcB, hov, hfv, x', hlt⟩
      simp (disch := first|exact dis|fail) only [go_sem, simprocAttr, ↓EU_rg, g3, g7, g9, hcB]
      repeat refine WPo_ob ?_
      refine (cgood_ev _ _ _ _ h' hov.sl (by rw [decs_len]; omega)).bind fun h'' x'' => ?_
      have hcB'' : h''.get h1.next = .cells [.int .i64 cur, v] 0 := by rw [x''.old _ hlt]; exact hcB
      have hcR : h''.get h.next = .cells [.int .i64 0, .slice none 0 1] 0 := by rw [x''.old _ (by omega), x'.old _ (by omega)]; exact hc1
      have hn' := x'.le
      have hn'' := x''.le
      simp (disch := first|exact dis|fail) only [go_sem, simprocAttr, ↓EU_rg, g3, g7, g9]
      ((repeat refine WPo_ob ?_); (first | refine WPo_cond (fun b6 => ?_) (fun b6 => ?_) | refine WPo_gard (fun b6 => ?_) (fun b6 => ?_) | refine WPo_gardT (fun b6 => ?_) (fun b6 => ?_)) <;> (try simp only [Bool.not_eq_true', Bool.not_eq_false'] at b6))
      ·rw [b6, if_neg (by simp)] at hgR
       rw [hgR]
       simp (disch := first|exact dis|fail) only [go_sem, simprocAttr, ↓EU_rg, g3, g7, g9, hcB'', hcR, b6]
       exact ⟨_, rfl, OW.nil, Fresh.nil _ _ _, ((xe.trans x').trans x'').set _ _ (Nat.le_refl _)⟩
      ·rw [b6, if_pos rfl] at hgR
       rw [hgR]
       obtain ⟨av, kv, rfl⟩ := hov.val
       simp (disch := first|exact dis|fail) only [go_sem, simprocAttr, ↓EU_rg, g3, g7, g9, hcB'', hcR, b6]
       refine ⟨_, rfl, (hov.ext x'').mod (Mod.set (S := fun j => j = h.next) (Mod.refl _ _) _ _ (fun _ => rfl)) (fun j hj q => by have := hfv j hj; omega), hfv.mono (by omega), ((xe.trans x').trans x'').set _ _ (Nat.le_refl _)⟩
   ·have b3' := b3
    simp only [decide_eq_true_eq] at b3'
    rw [if_pos (.inl (by omega))] at hgR
    rw [hgR]
    simp (disch := first|exact dis|fail) only [go_sem, simprocAttr, ↓EU_rg, hc1, b3]
    exact ⟨_, rfl, OW.nil, Fresh.nil _ _ _, xe.set _ _ (Nat.le_refl _)⟩
theorem readN_numB4 {n : Int} (h : 0 ≤ n ∧ n < 4294967296) : readN (numB n 4) = n := by
 have h1 := beN_numB n 4
 have h2 : n % (256 : Int) ^ 4 = n := by omega
 rw [h2] at h1
 unfold readN sgn64
 rw [if_pos (by omega), h1]
theorem readN_numB8 {n : Int} (h : -9223372036854775808 ≤ n ∧ n < 9223372036854775808) : readN (numB n 8) = n := by
 have h1 := beN_numB n 8
 unfold readN sgn64
 split <;> omega
theorem readN_byteI {n : Int} (h : 0 ≤ n ∧ n < 256) : readN [byteI n 0] = n := by
 have h1 := byteI_toNat n 0
 simp only [Nat.mul_zero, Int.pow_zero, Int.ediv_one] at h1
 unfold readN sgn64 beN
 simp only [List.foldl_cons, List.foldl_nil, Nat.zero_mul, Nat.zero_add]
 rw [if_pos (by omega)]
 omega
theorem toNat_byteI {n : Int} (h : 0 ≤ n ∧ n < 256) : ((byteI n 0).toNat : Int) = n := by
 have h1 := byteI_toNat n 0
 simp only [Nat.mul_zero, Int.pow_zero, Int.ediv_one] at h1
 omega
theorem drop_pre {α : Type} {a b : List α} {k : Nat} (h : a.length = k) : (a ++ b).drop k = b := by
 rw [← h, List.drop_left]
theorem take_pre {α : Type} {a b : List α} {k : Nat} (h : a.length = k) : (a ++ b).take k = a := by
 rw [← h, List.take_left]
theorem decItem_enc {x : Item} (h : imay x = true) (r : List UInt8) : decItem (encItem x ++ r) = x := by
 have f := imay_facts h
 unfold decItem encItem
 have e1 : (numB x.id 4 ++ byteI x.w 0 :: numB x.lag 8 ++ r) = numB x.id 4 ++ (byteI x.w 0 :: (numB x.lag 8 ++ r)) := by simp
 rw [e1]
 have d5 : (numB x.id 4 ++ (byteI x.w 0 :: (numB x.lag 8 ++ r))).drop 5 = numB x.lag 8 ++ r := by
  rw [show 5 = 4 + 1 from rfl, ← List.drop_drop, drop_pre (numB_len _ _)]; rfl
 rw [d5, take_pre (numB_len _ _), drop_pre (numB_len _ _), take_pre (numB_len _ _), List.take_succ_cons, List.take_zero, readN_numB4 (by omega), readN_byteI (by omega), readN_numB8 (by omega)]
theorem decs_enc : ∀ {l : List Item} (r : List UInt8), (∀ x ∈ l, imay x = true) → decs l.length (l.flatMap encItem ++ r) = l
 | [], _, _ => rfl
 | x :: l, r, h => by
  rw [List.length_cons, decs, List.flatMap_cons, List.append_assoc, decItem_enc (h x (by simp)), drop_pre (encItem_len x), decs_enc r fun z hz => h z (by simp [hz])]
theorem openN_seal (l : List UInt8) : openN (sealN l) = some l := by
 have h1 : (sealN l).length - 4 = l.length := by rw [sealN_len]; omega
 have h2 : (sealN l).take l.length = l := by unfold sealN; rw [List.take_left]
 unfold openN
 rw [h1, h2, if_neg (by rw [sealN_len]; omega), if_pos rfl]
theorem versionN_inv {b : List UInt8} {v : Int} (h : versionN b = some v) : ∃ c r, b = 83 :: 72 :: c :: r ∧ v = (c.toNat : Int) := by
 unfold versionN at h
 split at h
 ·rename_i a b' c r
  split at h
  ·rename_i q
   obtain ⟨rfl, rfl⟩ := q
   cases h
   exact ⟨c, r, rfl, rfl⟩
  ·cases h
 ·cases h
theorem getR_enc {tag cur : Int} {l : List Item} (h : cgood tag cur l = true) : getR (sealN (encF tag cur l)) = (tag, cur, l, 0) := by
 obtain ⟨a1, a2, a3⟩ := cgood_facts h
 obtain ⟨l1, l2, l3, l4⟩ := good_facts a3
 have h0 : encF tag cur l = 83 :: 72 :: 3 :: (byteI tag 0 :: (numB (cur + 1) 4 ++ (byteI (l.length : Int) 0 :: l.flatMap encItem))) := by unfold encF; rfl
 have hv : versionN (encF tag cur l) = some 3 := by rw [h0]; rfl
 have ho : openR (sealN (encF tag cur l)) = ((encF tag cur l).drop 3, 3, 0) := by
  unfold openR
  rw [openN_seal]
  dsimp only
  rw [hv]
 have h5 : bN (byteI tag 0 :: (numB (cur + 1) 4 ++ (byteI (l.length : Int) 0 :: l.flatMap encItem))) 5 = l.length := by
  unfold bN
  rw [List.getD_eq_getElem?_getD, List.getElem?_cons_succ, List.getElem?_append_right (by rw [numB_len]; omega), numB_len]
  have := toNat_byteI (n := (l.length : Int)) (by omega)
  show (byteI (l.length : Int) 0).toNat = _
  omega
 have h00 : ((bN (byteI tag 0 :: (numB (cur + 1) 4 ++ (byteI (l.length : Int) 0 :: l.flatMap encItem))) 0 : Nat) : Int) = tag := by
  show ((byteI tag 0).toNat : Int) = _
  exact toNat_byteI (by omega)
 have hcu : readN (((byteI tag 0 :: (numB (cur + 1) 4 ++ (byteI (l.length : Int) 0 :: l.flatMap encItem))).drop 1).take 4) - 1 = cur := by
  rw [List.drop_succ_cons, List.drop_zero, take_pre (numB_len _ _), readN_numB4 (by omega)]
  omega
 have h6 : (byteI tag 0 :: (numB (cur + 1) 4 ++ (byteI (l.length : Int) 0 :: l.flatMap encItem))).drop 6 = l.flatMap encItem := by
  rw [List.drop_succ_cons, show 5 = 4 + 1 from rfl, ← List.drop_drop, drop_pre (numB_len _ _)]; rfl
 have hd := decs_enc (l := l) [] l4
 rw [List.append_nil] at hd
 unfold getR
 rw [ho, if_neg (by simp), if_neg (by simp)]
 dsimp only
 rw [h0]
 simp only [List.drop_succ_cons, List.drop_zero]
 unfold bodyR
 rw [h5, h00, hcu, h6, hd, if_neg (by simp only [List.length_cons, List.length_append, numB_len, flatMap_enc_len]; omega), h, if_pos rfl]
theorem rwGood_ev (a : Int) (h : Heap) : EF Tryz.prog O0 65 [.int .i64 a] h = some (.bool (wgood a), h) := by
 have : WPo (EF Tryz.prog O0 65 [.int .i64 a] h) fun q => q = (.bool (wgood a), h) := by
  rw [EF_body (O := O0) (by kernel_rfl) Tryz.func65 rfl (rs := [.tmp 2]) rfl (bad := []) (by kernel_rfl) _ _ (m := 9) rfl]
  unfold wgood
  simp (disch := first|exact dis|fail) only [go_sem, simprocAttr, ↓EU_rg]
  repeat' (((repeat refine WPo_ob ?_); (first | refine WPo_cond (fun hb => ?_) (fun hb => ?_) | refine WPo_gard (fun hb => ?_) (fun hb => ?_) | refine WPo_gardT (fun hb => ?_) (fun hb => ?_)) <;> (try simp only [Bool.not_eq_true', Bool.not_eq_false'] at hb)) <;> (simp (disch := first|exact dis|fail) only [go_sem, simprocAttr, ↓EU_rg, hb]))
  all_goals simp_all
 obtain ⟨q, e, rfl⟩ := this
 exact e
noncomputable def badAt (p : Option Item) (x : Item) : Bool := !imay x || (match p with | none => false | some y => decide (x.id ≤ y.id))
theorem badAt_true {p : Option Item} {x : Item} {r : List Item} (h : badAt p x = true) : ordOk p (x :: r) = false := by
 unfold badAt at h
 cases p with
 | none => simp only [Bool.or_false, Bool.not_eq_true'] at h; simp [ordOk, h]
 | some y =>
  simp only [Bool.or_eq_true, Bool.not_eq_true', decide_eq_true_eq] at h
  rcases h with h | h
  ·simp [ordOk, h]
  ·simp only [ordOk]; rw [decide_eq_false (by omega : ¬ y.id < x.id)]; simp
theorem badAt_false {p : Option Item} {x : Item} {r : List Item} (h : badAt p x = false) : ordOk p (x :: r) = ordOk (some x) r := by
 unfold badAt at h
 cases p with
 | none => simp only [Bool.or_false, Bool.not_eq_false'] at h; simp [ordOk, h]
 | some y =>
  simp only [Bool.or_eq_false_iff, Bool.not_eq_false', decide_eq_false_iff_not] at h
  simp only [ordOk]; rw [decide_eq_true (by omega : y.id < x.id), h.1]; simp
theorem imay_neg (x : Item) : (!imay x) = (decide (x.id < 0) || (decide (1073741824 < x.id) || (!wgood x.w || (decide (x.lag < -1125899906842624) || decide (1125899906842624 < x.lag))))) := by
 unfold imay
 simp only [Bool.not_and]
 congr 1
 ·rw [← decide_not]; congr 1; simp; 
 ·congr 1
  ·rw [← decide_not]; congr 1; simp
  ·congr 2
   ·rw [← decide_not]; congr 1; simp
   ·rw [← decide_not]; congr 1; simp
theorem prevAt_succ {l : List Item} {i : Nat} {x : Item} (h : l[i]? = some x) : prevAt l (i + 1) = some x := by
 unfold prevAt; rw [if_neg (by omega), Nat.add_sub_cancel, h]
theorem rgood_ev (cur : Int) (l : List Item) (s : Value) (h : Heap) (hs : SL itemE 3 h s l) (hl : l.length < 900000) :
  Pu (EF Tryz.prog O0 43 [formV cur s] h) h (.bool (goodF cur l)) := by
 unfold Pu formV
 rw [EF_body (O := O0) (by kernel_rfl) Tryz.func43 rfl (rs := [.tmp 2]) rfl (bad := []) (by kernel_rfl) _ _ (m := 90) rfl]
 obtain ⟨a, c, hv⟩ := hs.val
 subst hv
 simp (disch := first|exact dis|fail) only [go_sem, simprocAttr, ↓EU_rg]
 repeat refine WPo_ob ?_
 refine (LP_rule (fun m st => ∃ (i : Nat) (tm : Fr) (h2 : Heap), st = ⟨tm, h2, []⟩ ∧ m = l.length - i ∧ i ≤ l.length ∧ Fr.get tm 1 = ptr h.next 0 ∧ Fr.get tm 5 = .int .i64 i ∧ Fr.get tm 3 = .bool (decide (cur = -1) || (l.take i).any (byId cur)) ∧ Fr.get tm 4 = .bool (decide ((l.length : Int) = 0) || (l.take i).any lagOk) ∧ Ext (h.push (.cells [.int .i64 cur, .slice a l.length c] 0)) h2 ∧ ordOk none l = ordOk (prevAt l i) (l.drop i))
  (fun q => ∃ tm h2, q.2 = ⟨tm, h2, []⟩ ∧ Ext (h.push (.cells [.int .i64 cur, .slice a l.length c] 0)) h2 ∧ ((q.1 = .exit 0 ∧ ordOk none l = true ∧ Fr.get tm 1 = ptr h.next 0 ∧ Fr.get tm 3 = .bool (decide (cur = -1) || l.any (byId cur)) ∧ Fr.get tm 4 = .bool (decide ((l.length : Int) = 0) || l.any lagOk)) ∨ (q.1 = .ret ∧ ordOk none l = false ∧ Fr.get tm 2 = .bool false))) ?_ l.length _ _ ?_ ?_).mono ?_
 ·rintro m _ ⟨i, tm, h2, rfl, rfl, hi, g1, g5, g3, g4, x2, ho⟩
  have hn2 := x2.le
  rw [next_push] at hn2
  have hF2 : h2.get h.next = .cells [.int .i64 cur, .slice a l.length c] 0 := by rw [x2.old _ (by rw [next_push]; omega)]; exact get_push_new _ _
  simp (disch := first|exact dis|fail) only [go_sem, simprocAttr, ↓EU_rg, g1, g5, hF2]
  ((repeat refine WPo_ob ?_); (first | refine WPo_cond (fun b2 => ?_) (fun b2 => ?_) | refine WPo_gard (fun b2 => ?_) (fun b2 => ?_) | refine WPo_gardT (fun b2 => ?_) (fun b2 => ?_)) <;> (try simp only [Bool.not_eq_true', Bool.not_eq_false'] at b2))
  ·have b2' := b2
   simp only [decide_eq_true_eq] at b2'
   have hi' : i < l.length := by omega
   obtain ⟨x, hx⟩ : ∃ x, l[i]? = some x := ⟨_, List.getElem?_eq_getElem hi'⟩
   obtain ⟨b, o, c', e, hb', hr, _⟩ := (hs.ext (((Ext.refl h).push _).trans x2)).at hx rfl
   cases e
   have hq : ∀ j y, l[j]? = some y → rdc1 (h2.get b) (o + j * 3) = some (.int .i64 y.id) := fun j y hy => by
    obtain ⟨_, _, _, e, _, _, hr⟩ := (hs.ext (((Ext.refl h).push (.cells [.int .i64 cur, .slice (some ⟨b, o, none⟩) l.length c] 0)).trans x2)).at hy rfl
    cases e
    have := hr 0 _ rfl
    rw [add_z] at this
    exact this
   simp (disch := first|exact dis|fail) only [go_sem, simprocAttr, g1, g5, hr]
   (first | rw [EU_region] | rw [EU_draw _ _ rfl]); simp (disch := first|exact dis|fail) only [go_sem, simprocAttr, g1, g5, hr, hF2]
   rw [EU_draw _ _ rfl]
   repeat refine WPo_ob ?_
   refine WPo.mono (Q := fun st => ∃ tm', st = ⟨tm', h2.push (.cells (itemE x) 0), []⟩ ∧ Fr.get tm' 1 = ptr h.next 0 ∧ Fr.get tm' 5 = .int .i64 i ∧ Fr.get tm' 6 = ptr h2.next 0 ∧ Fr.get tm' 3 = .bool (decide (cur = -1) || (l.take i).any (byId cur)) ∧ Fr.get tm' 4 = .bool (decide ((l.length : Int) = 0) || (l.take i).any lagOk) ∧ Fr.get tm' 65 = .bool (badAt (prevAt l i) x)) ?_ ?_
   ·rcases Nat.eq_zero_or_pos i with hi0 | hi0
    ·have hp : prevAt l i = none := by unfold prevAt; rw [if_pos hi0]
     have hd : decide (0 < (i : Int)) = false := decide_eq_false (by omega)
     rw [hp]
     unfold badAt
     rw [imay_neg]
     simp (disch := first|exact dis|fail) only [go_sem, simprocAttr, ↓EU_rg, g1, g5, hF2, rwGood_ev, hd]
     repeat' (((repeat refine WPo_ob ?_); (first | refine WPo_cond (fun hb => ?_) (fun hb => ?_) | refine WPo_gard (fun hb => ?_) (fun hb => ?_) | refine WPo_gardT (fun hb => ?_) (fun hb => ?_)) <;> (try simp only [Bool.not_eq_true', Bool.not_eq_false'] at hb)) <;> (simp (disch := first|exact dis|fail) only [go_sem, simprocAttr, ↓EU_rg, hb, g1, g5, hF2, rwGood_ev, hd]))
     all_goals (exact ⟨_, rfl, by simp (disch := first|exact dis|fail) only [go_sem, simprocAttr, ↓EU_rg, g1], by simp (disch := first|exact dis|fail) only [go_sem, simprocAttr, ↓EU_rg, g5], by simp (disch := first|exact dis|fail) only [go_sem, simprocAttr, ↓EU_rg], by simp (disch := first|exact dis|fail) only [go_sem, simprocAttr, ↓EU_rg, g3], by simp (disch := first|exact dis|fail) only [go_sem, simprocAttr, ↓EU_rg, g4], by simp (disch := first|exact dis|fail) only [go_sem, simprocAttr, ↓EU_rg]; simp [*]⟩)
    ·obtain ⟨y, hy⟩ : ∃ y, l[i - 1]? = some y := ⟨_, List.getElem?_eq_getElem (by omega)⟩
     have hp : prevAt l i = some y := by unfold prevAt; rw [if_neg (by omega), hy]
     have hd : decide (0 < (i : Int)) = true := decide_eq_true (by omega)
     have hq0 := hq _ y hy
     rw [hp]
     unfold badAt
     rw [imay_neg]
     simp (disch := first|exact dis|fail) only [go_sem, simprocAttr, ↓EU_rg, g1, g5, hF2, rwGood_ev, hd, hq0]
     repeat' (((repeat refine WPo_ob ?_); (first | refine WPo_cond (fun hb => ?_) (fun hb => ?_) | refine WPo_gard (fun hb => ?_) (fun hb => ?_) | refine WPo_gardT (fun hb => ?_) (fun hb => ?_)) <;> (try simp only [Bool.not_eq_true', Bool.not_eq_false'] at hb)) <;> (simp (disch := first|exact dis|fail) only [go_sem, simprocAttr, ↓EU_rg, hb, g1, g5, hF2, rwGood_ev, hd, hq0]))
     all_goals (exact ⟨_, rfl, by simp (disch := first|exact dis|fail) only [go_sem, simprocAttr, ↓EU_rg, g1], by simp (disch := first|exact dis|fail) only [go_sem, simprocAttr, ↓EU_rg, g5], by simp (disch := first|exact dis|fail) only [go_sem, simprocAttr, ↓EU_rg], by simp (disch := first|exact dis|fail) only [go_sem, simprocAttr, ↓EU_rg, g3], by simp (disch := first|exact dis|fail) only [go_sem, simprocAttr, ↓EU_rg, g4], by simp (disch := first|exact dis|fail) only [go_sem, simprocAttr, ↓EU_rg]; simp [*]⟩)
   ·rintro _ ⟨tm', rfl, k1, k5, k6, k3, k4, k65⟩
    have hx2 : Ext (h.push (.cells [.int .i64 cur, .slice (some ⟨b, o, none⟩) l.length c] 0)) (h2.push (.cells (itemE x) 0)) := x2.push _
    cases hbad : badAt (prevAt l i) x with
    | true =>
     rw [hbad] at k65
     simp (disch := first|exact dis|fail) only [go_sem, simprocAttr, ↓EU_rg, k65]
     exact ⟨_, _, rfl, hx2, .inr ⟨trivial, by rw [ho, drop_at hx]; exact badAt_true hbad, by simp (disch := first|exact dis|fail) only [go_sem, simprocAttr, ↓EU_rg]⟩⟩
    | false =>
     rw [hbad] at k65
     have ho' : ordOk none l = ordOk (prevAt l (i + 1)) (l.drop (i + 1)) := by rw [ho, drop_at hx, badAt_false hbad, prevAt_succ hx]
     have t3 := take_any (byId cur) hx
     have t4 := take_any lagOk hx
     generalize (l.take i).any (byId cur) = w at k3 t3
     generalize (l.take i).any lagOk = u at k4 t4
     simp (disch := first|exact dis|fail) only [go_sem, simprocAttr, ↓EU_rg, k1, k5, k6, k3, k4, k65, hF2]
     repeat' (((repeat refine WPo_ob ?_); (first | refine WPo_cond (fun hb => ?_) (fun hb => ?_) | refine WPo_gard (fun hb => ?_) (fun hb => ?_) | refine WPo_gardT (fun hb => ?_) (fun hb => ?_)) <;> (try simp only [Bool.not_eq_true', Bool.not_eq_false'] at hb)) <;> (simp (disch := first|exact dis|fail) only [go_sem, simprocAttr, ↓EU_rg, hb, k1, k5, k6, k3, k4, k65, hF2]))
     all_goals (refine ⟨_, by omega, i + 1, _, _, rfl, rfl, by omega, by simp (disch := first|exact dis|fail) only [go_sem, simprocAttr, ↓EU_rg, k1], by simp (disch := first|exact dis|fail) only [go_sem, simprocAttr, ↓EU_rg], ?_, ?_, hx2, ho'⟩)
     all_goals (simp only [t3, t4, ← Bool.or_assoc])
     all_goals (simp (disch := first|exact dis|fail) only [go_sem, simprocAttr, ↓EU_rg, k3, k4])
     all_goals (clear t3 t4 ho'; simp_all [byId, lagOk])
  ·simp only [decide_eq_false_iff_not] at b2
   have : i = l.length := by omega
   subst this
   simp (disch := first|exact dis|fail) only [go_sem, simprocAttr, ↓EU_rg]
   rw [List.take_length] at g3 g4
   refine ⟨_, _, rfl, x2, .inl ⟨trivial, ?_, by simp (disch := first|exact dis|fail) only [go_sem, simprocAttr, ↓EU_rg, g1], by simp (disch := first|exact dis|fail) only [go_sem, simprocAttr, ↓EU_rg, g3], by simp (disch := first|exact dis|fail) only [go_sem, simprocAttr, ↓EU_rg, g4]⟩⟩
   rw [ho, List.drop_length]
   cases prevAt l l.length <;> rfl
 ·exact ⟨0, _, _, rfl, rfl, by omega, by simp (disch := first|exact dis|fail) only [go_sem, simprocAttr, ↓EU_rg], by simp (disch := first|exact dis|fail) only [go_sem, simprocAttr, ↓EU_rg]; all_goals rfl, by simp (disch := first|exact dis|fail) only [go_sem, simprocAttr, ↓EU_rg]; simp, by simp (disch := first|exact dis|fail) only [go_sem, simprocAttr, ↓EU_rg]; simp, Ext.refl _, rfl⟩
 ·omega
 ·rintro ⟨q, _⟩ ⟨tm, h2, rfl, x2, ⟨rfl, e1, g1, g3, g4⟩ | ⟨rfl, e1, e2⟩⟩
  ·have hn2 := x2.le
   rw [next_push] at hn2
   have hF2 : h2.get h.next = .cells [.int .i64 cur, .slice a l.length c] 0 := by rw [x2.old _ (by rw [next_push]; omega)]; exact get_push_new _ _
   simp (disch := first|exact dis|fail) only [go_sem, simprocAttr, ↓EU_rg, g1, g3, g4, hF2]
   have hx2 := ((Ext.refl h).push (.cells [.int .i64 cur, .slice a l.length c] 0)).trans x2
   have hlen : decide ((l.length : Int) = 0) = decide (l.length = 0) := by congr 1; exact propext (by omega)
   have hlen' : decide ((l.length : Int) ≤ 64) = decide (l.length ≤ 64) := by congr 1; exact propext (by omega)
   unfold goodF
   repeat' (((repeat refine WPo_ob ?_); (first | refine WPo_cond (fun hb => ?_) (fun hb => ?_) | refine WPo_gard (fun hb => ?_) (fun hb => ?_) | refine WPo_gardT (fun hb => ?_) (fun hb => ?_)) <;> (try simp only [Bool.not_eq_true', Bool.not_eq_false'] at hb)) <;> (simp (disch := first|exact dis|fail) only [go_sem, simprocAttr, ↓EU_rg, hb, g1, g3, g4, hF2]))
   all_goals (refine ⟨?_, hx2⟩; simp_all)
  ·simp (disch := first|exact dis|fail) only [go_sem, simprocAttr, ↓EU_rg, e2]
   refine ⟨?_, ((Ext.refl h).push _).trans x2⟩
   congr 1
   unfold goodF
   rw [e1]
   simp
end Go.Proofs.YtddgcakiceodgaaGreat.EV
