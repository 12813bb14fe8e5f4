/- Numbers written by the reference: any. No condition. -/
import Derived.Test.YtpgekabdemmlfaaDoorNum1
import Derived.WalkKit
import Derived.ProofKit
import Derived.Deep.RegionWith
import Derived.Deep.Draws
import Derived.Below
namespace Go.Proofs.YtpgekabdemmlfaaDoor.EV
open Go Go.Proofs Go.RowKit
set_option linter.unusedVariables false
set_option linter.unusedSimpArgs false
theorem num_small (n : Int) (h0 : -9223372036854775808 ≤ n) (h1 : n < 10) (w : World) (tw : TabW w) : Calls Tryd.prog 26 #[.int .i64 n] w fun e w' => e = .returned (strV (itoaB n)) ∧ Below w.heap.size w w' := by
  have hw : WPo (EF Tryd.prog O1 26 [.int .i64 n] ⟨0, .nil⟩) fun q => q.1 = strV (itoaB n) := by
    by_cases q : n < 0
    · exact num_neg n h0 q
    · exact num_one n (by omega) h1
  obtain ⟨⟨v, h2⟩, e, rfl⟩ := hw
  have hs := pure_sound hN hmix O1_sound e rfl rfl ⟨0, .nil⟩
  refine (callsIn_wide.1 (hs.2 [] _ w #[.int .i64 n] 0 (HR.start w tw) (LR.of_flat0 [] rfl))).mono ?_
  rintro e' w' ⟨N, v', rfl, H2, hv'⟩
  rw [hv'.flat_eq rfl]
  exact ⟨rfl, H2.bel.os, H2.bel.tape, H2.bel.output, H2.bel.size, H2.bel.block⟩
theorem tabW_below {w w' : World} (tw : TabW w) (h : Below w.heap.size w w') : TabW w' := ⟨Nat.le_trans tw.1 h.size, tabOK_of (fun k hk => h.block k (Nat.lt_of_lt_of_le hk tw.1)) tw.2⟩
set_option maxHeartbeats 8000000 in
set_option maxRecDepth 100000 in
theorem num_calls : ∀ (u : Nat), u ≤ 9223372036854775807 → ∀ w, TabW w → Calls Tryd.prog 26 #[.int .i64 (u : Int)] w fun e w' => e = .returned (strV (itoaB u)) ∧ Below w.heap.size w w' := by
  intro u
  induction u using Nat.strongRecOn with
  | ind u ih =>
    intro hu w tw
    by_cases h10 : u < 10
    · exact num_small u (by omega) (by omega) w tw
    · have ihq := ih (u / 10) (by omega) (by omega)
      have d0 : decide ((u : Int) < 0) = false := decide_eq_false (by omega)
      have d1 : decide ((u : Int) < 10) = false := decide_eq_false (by omega)
      have eq1 : IntKind.i64.wrap ((u : Int) / 10) = ((u / 10 : Nat) : Int) := by
        rw [show ((u : Int) / 10) = ((u / 10 : Nat) : Int) by omega]
        have := wrapF_eq .i64 ((u / 10 : Nat) : Int)
        rw [← this]
        exact wrap64 (by omega)
      have eq2 : IntKind.u8.wrap (IntKind.i64.wrap (48 + (u : Int).tmod 10)) = ((48 + u % 10 : Nat) : Int) := by
        rw [show (u : Int).tmod 10 = ((u % 10 : Nat) : Int) from rfl, ← wrapF_eq, ← wrapF_eq, wrap64 (by omega), show (48 : Int) + ((u % 10 : Nat) : Int) = ((48 + u % 10 : Nat) : Int) by omega]
        exact wrapF_nat rfl (by show _ < 256; omega)
      have ec : ∀ w', Below w.heap.size w w' → Calls Tryd.prog 26 #[.int .i64 (IntKind.i64.wrap ((u : Int) / 10))] w' fun e w'' => e = .returned (strV (itoaB (u / 10 : Nat))) ∧ Below w'.heap.size w' w'' := fun w' h => by
        rw [eq1]
        exact ihq w' (tabW_below tw h)
      have hd : u % 10 < 10 := by omega
      generalize hq : itoaB (u / 10 : Nat) = q at *
      have hcv : ∀ (W : World) (b : Nat), W.cell? ⟨b, 0, none⟩ = some (.int .u8 (IntKind.u8.wrap (IntKind.i64.wrap (48 + (u : Int).tmod 10)))) → (convert 54 9 (.slice (some ⟨b, 0, none⟩) 1 1)).run Tryd.prog W = .ok (strV [UInt8.ofNat (48 + u % 10)]) W := fun W b hc => by
        rw [eq2] at hc
        have := run_convert_bytes_arg (P := Tryd.prog) W 54 5 Tryd.underlying54 Tryd.underlying5 b 0 1 1 [((48 + u % 10 : Nat) : Int)] rfl (fun i hi => by
          have : i = 0 := by omega
          subst this
          exact hc) 9 Tryd.underlying9
        exact this
      obtain ⟨v, hv⟩ : ∃ v : Int, IntKind.i64.wrap ((u : Int) / 10) = v := ⟨_, rfl⟩
      obtain ⟨k, hk⟩ : ∃ k : Int, IntKind.u8.wrap (IntKind.i64.wrap (48 + (u : Int).tmod 10)) = k := ⟨_, rfl⟩
      obtain ⟨c, hc⟩ : ∃ c : UInt8, UInt8.ofNat (48 + u % 10) = c := ⟨_, rfl⟩
      have hres : itoaB u = q ++ [c] := by
        rw [← hq, ← hc, itoaB_eq (by omega) (by omega), itoaB_eq (by omega) (by omega)]
        unfold Lib.itoa
        rw [if_neg (by omega), if_neg (by omega), show ((u : Int)).toNat = u by omega, show (((u / 10 : Nat) : Int)).toNat = u / 10 by omega, Lib.decDigits, dif_neg h10]
      rw [hv] at ec
      rw [hk, hc] at hcv
      rw [hres]
      have hql : q.length ≤ 20 := by
        rw [← hq, itoaB_eq (by omega) (by omega)]
        unfold Lib.itoa
        rw [if_neg (by omega), show (((u / 10 : Nat) : Int)).toNat = u / 10 by omega]
        have := dz_len 20 (u / 10) (by omega)
        unfold dz at this
        rw [if_neg (by omega)] at this
        exact this
      have hadd : ∀ W : World, (binOp .add 9 (strV q) (strV [c])).run Tryd.prog W = .ok (strV (q ++ [c])) W := fun W => by
        have e : binOp .add 9 (strV q) (strV [c]) = pure (strV (q ++ [c])) := strOp_add q [c] (by rw [List.length_singleton]; omega)
        rw [e]
        rfl
      clear eq1 eq2 ihq ih hd hq hc hres h10 hql
      go_enter Tryd.func26, Tryd.ntmps26
      go_wp2
      go_region_with (go_at_call 26; refine (ec _ (by first | exact (Below.refl _ w).drew | exact ((Below.refl _ w).alloc (Nat.le_refl _) _).drew)).mono ?_; rintro e w' ⟨rfl, hb⟩; have hcq := fun (a : Addr) (h : a.block < _) => hb.cell (p := a) h)
      · go_wp2
        exact bodyPost_ret (v := strV (q ++ [c])) (by simp [results, Tryd.results26, go_sem]) rfl ⟨rfl, ((Below.refl _ w).drew.trans hb).alloc hb.size _⟩
      all_goals
        go_wp2
        exact bodyPost_ret (v := strV (q ++ [c])) (by simp [results, Tryd.results26, go_sem]) rfl ⟨rfl, (((Below.refl _ w).alloc (Nat.le_refl _) _).drew).trans (hb.mono (by show w.heap.size ≤ (w.heap.push _).size; rw [Array.size_push]; omega))⟩
noncomputable def numT (args : List Value) (h : Heap) : VH := match args with
  | [.int .i64 n] => cnd (decide (-9223372036854775808 ≤ n) && decide (n ≤ 9223372036854775807)) (some (strV (itoaB n), h)) none
  | _ => none
theorem num_all (n : Int) (h0 : -9223372036854775808 ≤ n) (h1 : n ≤ 9223372036854775807) (w : World) (tw : TabW w) : Calls Tryd.prog 26 #[.int .i64 n] w fun e w' => e = .returned (strV (itoaB n)) ∧ Below w.heap.size w w' := by
  by_cases q : n < 0
  · exact num_small n h0 (by omega) w tw
  · obtain ⟨u, rfl⟩ := Int.eq_ofNat_of_zero_le (show 0 ≤ n by omega)
    exact num_calls u (by omega) w tw
theorem numT_sound {args : List Value} {h : Heap} {v : Value} {h' : Heap} (hg : numT args h = some (v, h')) : SF1 Tryd.prog 26 args h v h' := by
  unfold numT at hg
  split at hg
  · rename_i n
    cases hr : (decide (-9223372036854775808 ≤ n) && decide (n ≤ 9223372036854775807)) with
    | false => rw [hr] at hg; cases hg
    | true =>
      rw [hr] at hg
      cases hg
      simp only [Bool.and_eq_true, decide_eq_true_eq] at hr
      refine ⟨⟨_, _, Tryd.func26, rfl⟩, fun M w0 w args' m H hl => ?_⟩
      have ha : args' = #[.int .i64 n] := by
        have := LR.flat0 hl rfl
        cases args'
        simp only at this
        rw [← this]
      subst ha
      refine CallsIn.mono (callsIn_wide.2 (num_all n hr.1 hr.2 w H.tabW)) ?_
      rintro e' w' ⟨rfl, hb⟩
      refine ⟨[], _, rfl, ?_, VR.of_flat1 _ rfl⟩
      rw [List.append_nil]
      exact H.quiet ⟨hb.os, hb.tape, hb.output, hb.size, hb.block⟩
  · cases hg
end Go.Proofs.YtpgekabdemmlfaaDoor.EV
