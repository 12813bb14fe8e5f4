/-
  For every list of at most sixty 64-bit numbers and every turn the law WholeSums returns true: a sum is the same in whatever order. No condition.
-/
import Derived.Test.YthaacidfpcljfaaWholeBase
namespace Go.Proofs.Ythaacidfpcljfaa.Pure
open Go.RowKit Go.Proofs.Ythaacidfpcljfaa.PA Go.Proofs.YthaacidfpcljfaaW.PrintWords Go.Proofs.YthaacidfpcljfaaW.PrintLast

def tot : List Int → Int
  | [] => 0
  | x :: l => x + tot l
theorem tot_append (a b : List Int) : tot (a ++ b) = tot a + tot b := by
  induction a with
  | nil => simp [tot]
  | cons x a ih => simp only [List.cons_append, tot, ih]; omega
theorem tot_bound {l : List Int} (h : ∀ x ∈ l, I64 x) : -(l.length * 9223372036854775808 : Int) ≤ tot l ∧ tot l ≤ l.length * 9223372036854775808 := by
  induction l with
  | nil => simp [tot]
  | cons x l ih =>
    have h1 := ih (fun y hy => h y (List.mem_cons_of_mem _ hy))
    have h2 := h x (List.mem_cons_self ..)
    unfold I64 at h2
    simp only [tot, List.length_cons]
    omega
theorem rd_eq {l : List Int} {i : Nat} (h : i < l.length) : rd l (i : Int) = l[i] := by
  unfold rd
  rw [List.getD_eq_getElem?_getD, Int.toNat_natCast, List.getElem?_eq_getElem h]
  rfl
theorem wrap_in {x : Int} (h0 : -9223372036854775808 ≤ x) (h1 : x ≤ 9223372036854775807) : wrap64 x = x := by unfold wrap64; omega
theorem sum_l0 (l : List Int) (hl : l.length ≤ 1000) (h : ∀ x ∈ l, I64 x) (d : Nat) : ∀ (i : Nat) (v : Int), i + d = l.length → v = tot (l.take i) → Ev (fun k => whole_Sum.l0 k l (l.length : Int) (i : Int) (v / 18446744073709551616) (v % 18446744073709551616)) (fit (tot l)) := by
  induction d with
  | zero =>
    intro i v hi hv
    refine Ev.step (f := fun _ => some (fit (tot l))) (fun k => ?_) (Ev.now _)
    simp only [whole_Sum.l0]
    rw [if_neg (by omega), small_is, hv, List.take_of_length_le (by omega)]
    rfl
  | succ d ih =>
    intro i v hi hv
    have hlt : i < l.length := by omega
    have hx := h l[i] (List.getElem_mem hlt)
    have e : tot (l.take (i + 1)) = v + l[i] := by
      rw [List.take_add_one, List.getElem?_eq_getElem hlt, tot_append, hv]
      simp [tot]
    refine Ev.step (fun k => ?_) (ih (i + 1) (v + l[i]) (by omega) e.symm)
    simp only [whole_Sum.l0]
    rw [if_pos (by omega), if_pos (by omega), if_pos (by omega), rd_eq hlt, of_is hx]
    simp only [Option.bind_some]
    have b := tot_bound (l := l.take (i + 1)) (fun y hy => h y (List.mem_of_mem_take hy))
    rw [e] at b
    have : (l.take (i + 1)).length ≤ 1000 := by rw [List.length_take]; omega
    rw [add_is (by unfold I127; omega)]
    simp only [Option.bind_some]
    rw [wrap_in (by omega) (by omega)]
    rfl
theorem sum_is {l : List Int} (hl : l.length ≤ 1000) (h : ∀ x ∈ l, I64 x) : Ev (fun k => whole_Sum.f k l) (fit (tot l)) := sum_l0 l hl h l.length 0 0 (by omega) rfl

/-- the list, turned round -/
def turned (l : List Int) (r : Nat) : List Int := l.drop r ++ l.take r
theorem turned_len (l : List Int) (r : Nat) (h : r ≤ l.length) : (turned l r).length = l.length := by
  unfold turned; rw [List.length_append, List.length_drop, List.length_take]; omega
theorem turned_at {l : List Int} {r i : Nat} (hr : r < l.length) (hi : i < l.length) : (turned l r)[i]'(by rw [turned_len _ _ (by omega)]; exact hi) = l[(i + r) % l.length]'(Nat.mod_lt _ (by omega)) := by
  unfold turned
  by_cases c : i < l.length - r
  · rw [List.getElem_append_left (by rw [List.length_drop]; exact c), List.getElem_drop]
    have : (i + r) % l.length = r + i := by rw [Nat.mod_eq_of_lt (by omega)]; omega
    simp only [this]
  · rw [List.getElem_append_right (by rw [List.length_drop]; omega), List.getElem_take]
    have : (i + r) % l.length = i - (l.drop r).length := by
      rw [List.length_drop, Nat.mod_eq_sub_mod (by omega), Nat.mod_eq_of_lt (by omega)]; omega
    simp only [this]
theorem turned_tot (l : List Int) (r : Nat) : tot (turned l r) = tot l := by
  unfold turned
  rw [tot_append, Int.add_comm, ← tot_append, List.take_append_drop]
theorem sums_l0 {l : List Int} {t : Int} (hl : l.length ≤ 60) (h0 : 0 < l.length) (ht : 0 ≤ t) (h : ∀ x ∈ l, I64 x) (d : Nat) : ∀ i : Nat, i + d = l.length → Ev (fun k => stadholderlaw1_WholeSums.l0 k l t ((turned l (t.toNat % l.length)).take i) (i : Int)) true := by
  have hr : t.toNat % l.length < l.length := Nat.mod_lt _ h0
  have hm : Int.tmod t (l.length : Int) = ((t.toNat % l.length : Nat) : Int) := by
    rw [Int.tmod_eq_emod_of_nonneg ht, Int.natCast_emod, Int.toNat_of_nonneg ht]
  generalize t.toNat % l.length = r at hr hm ⊢
  induction d with
  | zero =>
    intro i hi
    have e : (turned l r).take i = turned l r := List.take_of_length_le (by rw [turned_len _ _ (by omega)]; omega)
    rw [e]
    have ht : ∀ x ∈ turned l r, I64 x := by
      intro x hx
      unfold turned at hx
      rcases List.mem_append.mp hx with hx | hx
      · exact h x (List.mem_of_mem_drop hx)
      · exact h x (List.mem_of_mem_take hx)
    have g : Ev (fun k => (whole_Sum.f k l).bind fun bt130 => ((whole_Sum.f k (turned l r)).bind fun bt132 => (if bt130.1 = bt132.1 then (some (bt130.2 == bt132.2)) else (some false)))) true := by
      refine Ev.bind (sum_is (by omega) h) ?_
      refine Ev.bind (sum_is (by rw [turned_len _ _ (by omega)]; omega) ht) ?_
      rw [turned_tot]
      refine Ev.congr (fun k => ?_) (Ev.now _)
      simp
    refine Ev.step (fun k => ?_) g
    simp only [stadholderlaw1_WholeSums.l0]
    rw [if_neg (by omega)]
  | succ d ih =>
    intro i hi
    have hlt : i < l.length := by omega
    refine Ev.step (fun k => ?_) (ih (i + 1) (by omega))
    simp only [stadholderlaw1_WholeSums.l0]
    have e1 : Int.tmod (wrap64 ((i : Int) + (Int.tmod t (l.length : Int)))) (l.length : Int) = (((i + r) % l.length : Nat) : Int) := by
      rw [hm, wrap_in (by omega) (by omega), Int.tmod_eq_emod_of_nonneg (by omega), Int.natCast_emod, Int.natCast_add]
    have lt1 : (i + r) % l.length < l.length := Nat.mod_lt _ h0
    rw [e1]
    rw [if_pos (by omega), if_neg (by omega), if_pos (by omega), if_pos (by omega), if_pos (by rw [List.length_take]; omega)]
    rw [rd_eq lt1, wrap_in (by omega) (by omega)]
    have e2 : (turned l r).take (i + 1) = (turned l r).take i ++ [l[(i + r) % l.length]] := by
      rw [List.take_add_one, List.getElem?_eq_getElem (by rw [turned_len _ _ (by omega)]; exact hlt), turned_at hr hlt]
      rfl
    rw [e2]
    rfl
theorem WholeSums : stadholderlaw1_WholeSums.Pure := by
  intro l t hl1 hl2 hw wt
  have hx : ∀ x ∈ l, I64 x := fun x hx => wf_i64 (hw x hx)
  refine Ev.rounds ?_
  unfold stadholderlaw1_WholeSums.f
  refine Ev.bind awake_is ?_
  simp only [if_true]
  have yes : Ev (fun k => stadholderlaw1_WholeSums.j0 k l t true) true := by
    refine Ev.step (f := fun _ => some true) (fun k => ?_) (Ev.now _)
    simp [stadholderlaw1_WholeSums.j0]
  by_cases c : (l.length : Int) < 1
  · refine Ev.congr (fun k => ?_) yes
    rw [if_pos c]
  · by_cases d : (l.length : Int) > 60
    · refine Ev.congr (fun k => ?_) yes
      rw [if_neg c, if_pos d]
    · by_cases e : t < 0
      · refine Ev.congr (fun k => ?_) yes
        rw [if_neg c, if_neg d, decide_eq_true e]
      · have g : Ev (fun k => stadholderlaw1_WholeSums.j0 k l t false) true := by
          refine Ev.step (fun k => ?_) (sums_l0 (t := t) (by omega) (by omega) (by omega) hx l.length 0 (by omega))
          simp only [stadholderlaw1_WholeSums.j0, List.take_zero]
          simp
        refine Ev.congr (fun k => ?_) g
        rw [if_neg c, if_neg d, decide_eq_false e]

end Go.Proofs.Ythaacidfpcljfaa.Pure
