-- by a program of this session, out of the translation
import Derived.Test.YtcmgioafkacgdaaPAx0
import Derived.Test.YtcmgioafkacgdaaPAx1
import Derived.Test.YtcmgioafkacgdaaPAx3
import Derived.Lib.SlBytesConst
namespace Go.Proofs.Ytcmgioafkacgdaa.PA
open Go.RowKit Go.Proofs.YtcmgioafkacgdaaW.PrintWords Go.Proofs.YtcmgioafkacgdaaW.PrintLast Go.Proofs.YtcmgioafkacgdaaW.PrintMore
attribute [local go_sem] max2_int min2_int max_two min_two max_three min_three max_four min_four   -- for this text's walks alone
set_option linter.unusedVariables false
set_option linter.unusedSimpArgs false

/-! ### stadholderlaw17_awake: function 6 (by hand) -/
--IMPORT Derived.Lib.SlBytesConst
def nine : List Int := [49, 50, 51, 52, 53, 54, 55, 56, 57]
def stadholderlaw17_awake.f (k : Nat) : Option (Bool) := (seal_Put.f k nine).bind fun t124 => ((seal_Get.f k t124).bind fun bt127 => ((seal_Of.f k nine).bind fun t131 => (if t131 = 3808858755 then (if bt127.2 = 0 then (some ((strOfNums bt127.1).toList == (strOfNums nine).toList)) else (some false)) else (some false))))
set_option maxHeartbeats 8000000 in
set_option maxRecDepth 100000 in
theorem stadholderlaw17_awake.calls (k : Nat) (r : Bool) (w : World) (h : stadholderlaw17_awake.f k = some r) :
    Calls Try.prog 6 #[] w fun e w' => e = .returned (.bool r) ∧ Below w.heap.size w w' := by
  unfold stadholderlaw17_awake.f at h
  obtain ⟨t124, A1, H⟩ := Option.bind_eq_some_iff.mp h
  obtain ⟨⟨t127, t128⟩, A2, H⟩ := Option.bind_eq_some_iff.mp H
  obtain ⟨t131, A3, H⟩ := Option.bind_eq_some_iff.mp H
  clear h
  replace A1 := Aside0.mk A1
  replace A2 := Aside0.mk A2
  replace A3 := Aside0.mk A3
  replace H : (if t131 = 3808858755 then (if t128 = 0 then (some ((strOfNums t127).toList == (strOfNums nine).toList)) else (some false)) else (some false)) = some r := H
  have hC0 : Kd.C (Kd.int .u8) (w.alloc (Obj.cells #[Value.int .u8 49, Value.int .u8 50, Value.int .u8 51, Value.int .u8 52, Value.int .u8 53, Value.int .u8 54, Value.int .u8 55, Value.int .u8 56, Value.int .u8 57] 5 (9, 10))) (some ⟨w.heap.size, 0, none⟩) nine.length nine := text_C nine (alloc_at _ _) rfl (by decide)
  have HC0 := Aside0.mk hC0
  clear hC0
  have HB := Aside0.mk (below_alloc (Below.refl w.heap.size w) (Obj.cells #[Value.int .u8 49, Value.int .u8 50, Value.int .u8 51, Value.int .u8 52, Value.int .u8 53, Value.int .u8 54, Value.int .u8 55, Value.int .u8 56, Value.int .u8 57] 5 (9, 10)))
  have kc := fun (w : World) (C : Array Value) (n c : Nat) => Lib.run_convert_bytes_const (P := Try.prog) w 23 5 C n c Try.underlying23 Try.underlying5
  have fin : ∀ w' : World, Below w.heap.size w w' → (∃ b : Bool, b = (if (t131 == 3808858755) = true then (if (t128 == 0) = true then ((strOfNums t127).toList == (strOfNums nine).toList) else false) else false) ∧ r = b) := by
    intro w' _
    refine ⟨_, rfl, ?_⟩
    by_cases c1 : t131 = 3808858755 <;> by_cases c2 : t128 = 0 <;> simp_all
  obtain ⟨b, hb, rfl⟩ := fin w (Below.refl _ _)
  have HF := Aside0.mk hb
  clear fin hb H
  have step : ∀ c1 c2 : Bool, (t131 == 3808858755) = c1 → (t128 == 0) = c2 → Calls Try.prog 6 #[] w fun e w' => e = .returned (.bool r) ∧ Below w.heap.size w w' := by
    intro c1 c2 h1 h2
    have hbr := HF.out
    rw [h1, h2] at hbr
    have HF2 := Aside0.mk hbr
    clear hbr HF
    go_enter Try.func6, Try.ntmps6
    go_wp2_with fail
    refine (seal_Put.calls k _ _ nine t124 _ HC0.out (by decide) A1.out).mono ?_
    rintro e w1 ⟨v, rfl, ho, hb⟩
    obtain ⟨Ao, co, rfl⟩ := Kd.R_slice ho
    have HO := Aside0.mk ho
    have HB1 := Aside0.mk (below_step HB.out hb)
    have HC1 := Aside0.mk (Kd.C_below HC0.out hb)
    clear ho hb HB HC0
    go_wp2_with fail
    refine (seal_Get.calls k _ _ t124 t127 t128 _ (Kd.R_reads' HO.out).2.2 (Kd.R_reads' HO.out).2.1 A2.out).mono ?_
    rintro e w2 ⟨v2, rfl, ho2, hb2⟩
    obtain ⟨Ao2, co2, rfl⟩ := Kd.R_slice ho2
    have HO2 := Aside0.mk ho2
    have HB2 := Aside0.mk (below_step HB1.out hb2)
    have HC2 := Aside0.mk (Kd.C_below HC1.out hb2)
    clear ho2 hb2 HB1 HC1 HO
    go_wp2_with fail
    refine (seal_Of.calls k _ _ nine t131 _ HC2.out (by decide) A3.out).mono ?_
    rintro e w3 ⟨rfl, ⟨nd, rfl⟩⟩
    have hs1 : ∀ m, (convert 23 9 (.slice Ao2 t127.length co2)).run Try.prog (w2.drewN m) = .ok (.string (strOfNums t127)) (w2.drewN m) := fun m => Kd.C_string (P := Try.prog) Try.underlying23 Try.underlying5 Try.underlying9 (Kd.C_drewN (Kd.R_reads' HO2.out).2.2 _)
    have hs2 : ∀ m, (convert 23 9 (.slice (some ⟨w.heap.size, 0, none⟩) 9 9)).run Try.prog (w2.drewN m) = .ok (.string (strOfNums nine)) (w2.drewN m) := fun m => Kd.C_string (P := Try.prog) Try.underlying23 Try.underlying5 Try.underlying9 (Kd.C_drewN HC2.out _)
    have HBN := Aside0.mk (pw_below_drewN HB2.out nd)
    cases c1 <;> cases c2 <;> (go_wp2; go_ret; refine ⟨?_, by repeat (first | exact HBN.out | apply pw_below_drewN | apply below_drew1 | exact HB2.out)⟩; have := HF2.out; simp at this; simp [this])
  exact step _ _ rfl rfl

theorem stadholderlaw17_awake.mono : ∀ k, LeO (stadholderlaw17_awake.f k) (stadholderlaw17_awake.f (k + 1)) := by
  intro k
  unfold stadholderlaw17_awake.f
  repeat' first
      | (with_reducible exact seal_Put.mono _ _)
      | (with_reducible exact seal_Get.mono _ _)
      | (with_reducible exact seal_Of.mono _ _)
      | (with_reducible exact LeO.refl _)
      | (with_reducible exact LeO.none _)
      | (with_reducible refine LeO.ite ?_ ?_)
      | (with_reducible refine LeO.bind ?_ (fun _ => ?_))

end Go.Proofs.Ytcmgioafkacgdaa.PA
