/- SY, part 8: ranges over functions. No condition. -/
import Derived.Test.YtbbdhpjkibbnkaaSy7
namespace Go.Proofs.Ytbbdhpjkibbnkaa.EV
set_option linter.unusedVariables false
set_option linter.unusedSimpArgs false
open Go Go.Proofs
section
variable {P : Program} {O : Orc} {bad : List Nat} {n : Nat}
noncomputable def RNG (P : Program) (O : Orc) (n : Nat) (g : Value) (ps : List Tmp) (assign body : Code) (tm : Fr) (h : Heap) (ms : List Nat) : CR := rangeC (EVR P O) none n g ps assign body ⟨tm, h, ms⟩
theorem EU_rng (g : Operand) (ps : Array Tmp) (assign body : Code) (tm : Fr) (h : Heap) (ms : List Nat) : EU P O bad none n (.rangeFunc g ps assign body) ⟨tm, h, ms⟩ = ob (opnd tm g) fun g => RNG P O n g ps.toList assign body tm h ms := by
  unfold EU
  rw [show undB bad (.rangeFunc g ps assign body) = .rangeFunc g ps assign body from rfl, EC_eq]
  rfl
noncomputable def loop0 (n : Nat) (tm : Fr) (ps : List Tmp) (assign body : Code) (d : Nat) : LoopA := { state := .ready, pending := none, n := n, tm := tm, params := ps, assign := assign, body := body, defers := d }
noncomputable def loopB0 (n : Nat) (tm : Fr) (ps : List Tmp) (assign body : Code) (d : Nat) (s : LoopState) (p : Option Code) : Blk := .loop { state := s, pending := p, n := n, tm := tm, params := ps, assign := assign, body := body, defers := d }
theorem EC_ret (ro : Option Nat) (st : St) : EC P O ro n .ret st = some (.ret, st) := EC_eq ..
theorem EC_exit (ro : Option Nat) (i : Nat) (st : St) : EC P O ro n (.exit i) st = some (.exit i, st) := EC_eq ..
theorem EC_skip (ro : Option Nat) (st : St) : EC P O ro n .skip st = some (.normal, st) := EC_eq ..
/-- a range over a function: what the function comes to, given what a round comes to -/
theorem range_rule {f : FuncId} {a b : List Value} {ps : List Tmp} {assign body : Code} {tm : Fr} {h : Heap} {ms : List Nat} {Q : Exit × St → Prop} (s : Option Code → LoopState) (R : Option Code → Heap → Prop)
    (hs : ∀ p, isBusy (s p) = false)
    (hit : WPo (EF P O f (a ++ [yieldV (h.next + 1)] ++ b) ((h.push .defd).push (loopB0 n tm ps assign body h.next .ready none))) fun q => ∃ p, q.2.get (h.next + 1) = loopB0 n tm ps assign body h.next (s p) p ∧ R p (q.2.set (h.next + 1) (loopB0 n tm ps assign body h.next .exhausted p)))
    (hn : ∀ h', R none h' → Q (.normal, ⟨tm, h', h.next :: ms⟩)) (hc : ∀ c h', R (some c) h' → WPo (EC P O none n c ⟨tm, h', h.next :: ms⟩) Q) :
    WPo (RNG P O n (.func (.func f) ⟨a⟩ ⟨b⟩) ps assign body tm h ms) Q := by
  obtain ⟨⟨v, h1⟩, e, p, g, r⟩ := hit
  simp only at g r
  have e2 : RNG P O n (.func (.func f) ⟨a⟩ ⟨b⟩) ps assign body tm h ms = rangeTail (EVR P O) none n tm (h.next :: ms) (p, h1.set (h.next + 1) (loopB0 n tm ps assign body h.next .exhausted p)) := by
    unfold RNG
    show ob (EF P O f (a ++ [yieldV (h.push .defd).next] ++ b) ((h.push .defd).push (loopB0 n tm ps assign body h.next .ready none))) (fun vh => ob (endLoopV vh.2 (h.push .defd).next) fun e => rangeTail (EVR P O) none n tm (h.next :: ms) e) = _
    rw [next_push, e, ob_some]
    have e3 : endLoopV h1 (h.next + 1) = some (p, h1.set (h.next + 1) (loopB0 n tm ps assign body h.next .exhausted p)) := by
      unfold endLoopV
      rw [g]
      show ob (some _) _ = _
      rw [ob_some]
      show gd (!isBusy (s p)) _ = _
      rw [hs p]; rfl
    show ob (endLoopV h1 (h.next + 1)) _ = _
    rw [e3, ob_some]
  rw [e2]
  cases p with
  | none => exact ⟨_, rfl, hn _ r⟩
  | some c => exact hc c _ r
/-- a round -/
theorem round_rule {l : Nat} {tm : Fr} {ps : List Tmp} {assign body : Code} {d : Nat} {args : List Value} {h : Heap} {Q : Value × Heap → Prop} (hl : h.get l = loopB0 n tm ps assign body d .ready none) (hlen : args.length = ps.length) {tm1 : Fr}
    (hA : EC P O (some l) n assign ⟨setParams n (ps.zip args) tm, h, []⟩ = some (.normal, ⟨tm1, h, []⟩))
    (hB : WPo (EC P O (some l) n body ⟨tm1, h.set l (loopB0 n tm ps assign body d .busy none), []⟩) fun q => q.2.h.get l = loopB0 n tm ps assign body d .busy none ∧ ((q.1 = .normal ∧ Q (.bool true, q.2.h.set l (loopB0 n tm ps assign body d .ready none))) ∨ (q.1 = .ret ∧ Q (.bool false, q.2.h.set l (loopB0 n tm ps assign body d .done (some .ret)))) ∨ (∃ i, q.1 = .exit i ∧ Q (.bool false, q.2.h.set l (loopB0 n tm ps assign body d .done (some (.exit i))))))) :
    WPo (CALLV P O h args (yieldV l)) Q := by
  obtain ⟨⟨x, ⟨tm2, h2, ms2⟩⟩, e, g, r⟩ := hB
  simp only at g r
  have e0 : Nat.beq args.length ps.length = true := by rw [hlen]; exact Nat.beq_refl _
  unfold CALLV
  show WPo (evRound (EVR P O) l args h) Q
  unfold evRound
  rw [hl]
  show WPo (gd (Nat.beq args.length ps.length) (ob (EC P O (some l) n assign ⟨setParams n (ps.zip args) tm, h, []⟩) _)) Q
  rw [e0, hA]
  show WPo (ob (loopB (h.get l)) _) Q
  rw [hl]
  show WPo (ob (EC P O (some l) n body ⟨tm1, h.set l (loopB0 n tm ps assign body d .busy none), []⟩) _) Q
  rw [e, ob_some]
  rcases r with ⟨rfl, r⟩ | ⟨rfl, r⟩ | ⟨i, rfl, r⟩
  · show WPo (ob (loopB (h2.get l)) _) Q
    rw [g]
    exact ⟨_, rfl, r⟩
  · show WPo (ob (loopB (h2.get l)) _) Q
    rw [g]
    exact ⟨_, rfl, r⟩
  · show WPo (ob (loopB (h2.get l)) _) Q
    rw [g]
    exact ⟨_, rfl, r⟩
theorem range_rule' {f : FuncId} {a b : List Value} {ps : List Tmp} {assign body : Code} {tm : Fr} {h : Heap} {ms : List Nat} {Q : Exit × St → Prop} (s : Option Code → LoopState) (R : Option Code → Heap → Prop)
    (hs : ∀ p, isBusy (s p) = false)
    (hit : ∀ LB : LoopState → Option Code → Blk, (LB = fun s p => loopB0 n tm ps assign body h.next s p) → WPo (EF P O f (a ++ [yieldV (h.next + 1)] ++ b) ((h.push .defd).push (LB .ready none))) fun q => ∃ p, q.2.get (h.next + 1) = LB (s p) p ∧ R p (q.2.set (h.next + 1) (LB .exhausted p)))
    (hn : ∀ h', R none h' → Q (.normal, ⟨tm, h', h.next :: ms⟩)) (hc : ∀ c h', R (some c) h' → WPo (EC P O none n c ⟨tm, h', h.next :: ms⟩) Q) :
    WPo (RNG P O n (.func (.func f) ⟨a⟩ ⟨b⟩) ps assign body tm h ms) Q := range_rule s R hs (hit _ rfl) hn hc
theorem round_rule' {l : Nat} {tm : Fr} {ps : List Tmp} {assign body : Code} {d : Nat} {args : List Value} {h : Heap} {Q : Value × Heap → Prop} {LB : LoopState → Option Code → Blk} (hLB : LB = fun s p => loopB0 n tm ps assign body d s p) (hl : h.get l = LB .ready none) (hlen : args.length = ps.length) {tm1 : Fr}
    (hA : EC P O (some l) n assign ⟨setParams n (ps.zip args) tm, h, []⟩ = some (.normal, ⟨tm1, h, []⟩))
    (hB : WPo (EC P O (some l) n body ⟨tm1, h.set l (LB .busy none), []⟩) fun q => q.2.h.get l = LB .busy none ∧ ((q.1 = .normal ∧ Q (.bool true, q.2.h.set l (LB .ready none))) ∨ (q.1 = .ret ∧ Q (.bool false, q.2.h.set l (LB .done (some .ret)))) ∨ (∃ i, q.1 = .exit i ∧ Q (.bool false, q.2.h.set l (LB .done (some (.exit i))))))) :
    WPo (CALLV P O h args (yieldV l)) Q := by
  subst hLB
  exact round_rule hl hlen hA hB
theorem EC_EU {c : Code} (hd : drawBad P c = bad) (ro : Option Nat) (st : St) : EC P O ro n c st = EU P O bad ro n c st := by
  unfold EU
  rw [EC_und bad ro n c _ (by rw [hd]; exact fun _ h => h)]
theorem leaveK_dn (P : Program) (rs : List ResultVar) (tm : Fr) (h : Heap) (d : Nat) (hd : h.get d = .defd) : leaveK P rs (.normal, ⟨tm, h, [d]⟩) = ob (resVs P tm (h.set d .dead) rs) fun vs => some (oneOf vs, h.set d .dead) := by
  unfold leaveK
  show ob (gd (isDefd (h.get d)) (some (h.set d .dead))) _ = _
  rw [hd]; rfl
theorem leaveK_dr (P : Program) (rs : List ResultVar) (tm : Fr) (h : Heap) (d : Nat) (hd : h.get d = .defd) : leaveK P rs (.ret, ⟨tm, h, [d]⟩) = ob (resVs P tm (h.set d .dead) rs) fun vs => some (oneOf vs, h.set d .dead) := by
  unfold leaveK
  show ob (gd (isDefd (h.get d)) (some (h.set d .dead))) _ = _
  rw [hd]; rfl
end
attribute [go_sem ↓] EU_rng
attribute [irreducible] RNG
end Go.Proofs.Ytbbdhpjkibbnkaa.EV
