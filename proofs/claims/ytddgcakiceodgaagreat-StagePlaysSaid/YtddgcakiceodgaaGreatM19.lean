/- Contracts: stage.New, (*stage.Try).Step, Abort, Stage, Why, Bytes. No condition. Plain facts on faults: none just if the form may be; none against another just if both are the same. No condition. A try left alone, step by step. No condition. Forms that may be, of points: what a run leaves so. No condition. The reference's queue: Step, day, at, New, Seed, Form. No condition. The reference's queue: Form, grow. No condition. The reference's queue: Pick. No condition. Forms that may be: a run leaves them so. No condition. -/
import Derived.Test.YtddgcakiceodgaaGreatM18
import Derived.Test.YtddgcakiceodgaaGreatM13
import Derived.Test.YtddgcakiceodgaaGreatM14
namespace Go.Proofs.YtddgcakiceodgaaGreat.EV
open Go Go.Proofs
set_option linter.unusedVariables false
set_option linter.unusedSimpArgs false
set_option maxRecDepth 100000
theorem stageNew_ev (cb : Nat) (tag base : Int) (h : Heap) :
  WPo (EF Tryz.prog O0 9 [ptr cb 0, .int .i64 tag, .int .i64 base] h) fun q => Ext h q.2 ∧ if tgood tag && bgood base then ∃ tb, q.1 = .tuple ⟨[ptr tb 0, .int .i64 0]⟩ ∧ h.next ≤ tb ∧ tb < q.2.next ∧ q.2.get tb = .cells (tryL cb tag base 0 0 0 noS nilP fun _ => false) 0 else q.1 = .tuple ⟨[nilP, .int .i64 1]⟩ := by
 rw [EF_body (O := O0) (by kernel_rfl) Tryz.func9 rfl (rs := [.tmp 6, .tmp 7]) rfl (bad := []) (by kernel_rfl) _ _ (m := 26) rfl]
 simp (disch := first|exact dis|fail) only [go_sem, simprocAttr, ↓EU_rg]
 repeat refine WPo_ob ?_
 refine (polNew_ev tag base h).mono ?_
 rintro ⟨w, h1⟩ ⟨x1, k⟩
 cases hg : (tgood tag && bgood base) with
 | false =>
  rw [hg, if_neg (by decide)] at k
  simp only at k
  subst k
  unfold nilP
  simp (disch := first|exact dis|fail) only [go_sem, simprocAttr, ↓EU_rg, Int.reduceEq, if_false, Bool.false_eq_true]
  exact ⟨x1, trivial⟩
 | true =>
  rw [hg, if_pos rfl] at k
  obtain ⟨b, lb, e, _⟩ := k
  simp only at e
  subst e
  simp (disch := first|exact dis|fail) only [go_sem, simprocAttr, ↓EU_rg, if_true]
  exact ⟨x1.push _, _, rfl, x1.le, by omega, by simp (disch := first|exact dis|fail) only [go_sem, simprocAttr, ↓EU_rg]; all_goals rfl⟩
section
variable {cb tb : Nat} {h : Heap} {tg bs st why age : Int} {bv qv : Value} {f : Nat → Bool}
theorem stageOf_ev (ht : h.get tb = .cells (tryL cb tg bs st why age bv qv f) 0) : EF Tryz.prog O0 21 [ptr tb 0] h = some (.int .i64 st, h) := by
 have : WPo (EF Tryz.prog O0 21 [ptr tb 0] h) fun q => q = (.int .i64 st, h) := by
  unfold tryL at ht
  rw [EF_body (O := O0) (by kernel_rfl) Tryz.func21 rfl (rs := [.tmp 2]) rfl (bad := []) (by kernel_rfl) _ _ (m := 7) rfl]
  simp (disch := first|exact dis|fail) only [go_sem, simprocAttr, ↓EU_rg, ht]
 obtain ⟨q, e, rfl⟩ := this
 exact e
theorem stageWhy_ev (ht : h.get tb = .cells (tryL cb tg bs st why age bv qv f) 0) : EF Tryz.prog O0 16 [ptr tb 0] h = some (.int .i64 why, h) := by
 have : WPo (EF Tryz.prog O0 16 [ptr tb 0] h) fun q => q = (.int .i64 why, h) := by
  unfold tryL at ht
  rw [EF_body (O := O0) (by kernel_rfl) Tryz.func16 rfl (rs := [.tmp 2]) rfl (bad := []) (by kernel_rfl) _ _ (m := 7) rfl]
  simp (disch := first|exact dis|fail) only [go_sem, simprocAttr, ↓EU_rg, ht]
 obtain ⟨q, e, rfl⟩ := this
 exact e
theorem stageOver_ev (ht : h.get tb = .cells (tryL cb tg bs st why age bv qv f) 0) : EF Tryz.prog O0 34 [ptr tb 0] h = some (.bool (decide (5 ≤ st)), h) := by
 have : WPo (EF Tryz.prog O0 34 [ptr tb 0] h) fun q => q = (.bool (decide (5 ≤ st)), h) := by
  unfold tryL at ht
  rw [EF_body (O := O0) (by kernel_rfl) Tryz.func34 rfl (rs := [.tmp 2]) rfl (bad := []) (by kernel_rfl) _ _ (m := 8) rfl]
  simp (disch := first|exact dis|fail) only [go_sem, simprocAttr, ↓EU_rg, ht]
 obtain ⟨q, e, rfl⟩ := this
 exact e
theorem stageFail_ev (ht : h.get tb = .cells (tryL cb tg bs st why age bv qv f) 0) (e : Int) : ∃ v, EF Tryz.prog O0 36 [ptr tb 0, .int .i64 e] h = some (v, h.set tb (.cells (tryL cb tg bs 6 e age bv qv f) 0)) := by
 have : WPo (EF Tryz.prog O0 36 [ptr tb 0, .int .i64 e] h) fun q => q.2 = h.set tb (.cells (tryL cb tg bs 6 e age bv qv f) 0) := by
  unfold tryL at *
  rw [EF_body (O := O0) (by kernel_rfl) Tryz.func36 rfl (rs := []) rfl (bad := []) (by kernel_rfl) _ _ (m := 11) rfl]
  simp (disch := first|exact dis|fail) only [go_sem, simprocAttr, ↓EU_rg, ht]
 obtain ⟨⟨v, h1⟩, e, e1⟩ := this
 simp only at e1
 subst e1
 exact ⟨v, e⟩
theorem stageAbort_ev (ht : h.get tb = .cells (tryL cb tg bs st why age bv qv f) 0) : EF Tryz.prog O0 15 [ptr tb 0] h = some (.bool (decide (st < 5)), if 5 ≤ st then h else h.set tb (.cells (tryL cb tg bs 6 13 age bv qv f) 0)) := by
 have : WPo (EF Tryz.prog O0 15 [ptr tb 0] h) fun q => q = (.bool (decide (st < 5)), if 5 ≤ st then h else h.set tb (.cells (tryL cb tg bs 6 13 age bv qv f) 0)) := by
  obtain ⟨v, hf⟩ := stageFail_ev ht 13
  rw [EF_body (O := O0) (by kernel_rfl) Tryz.func15 rfl (rs := [.tmp 2]) rfl (bad := []) (by kernel_rfl) _ _ (m := 7) rfl]
  by_cases q : 5 ≤ st
  ·have d1 : decide (5 ≤ st) = true := decide_eq_true q
   have d2 : decide (st < 5) = false := decide_eq_false (by omega)
   simp (disch := first|exact dis|fail) only [go_sem, simprocAttr, ↓EU_rg, stageOver_ev ht, d1, d2, if_pos q]
  ·have d1 : decide (5 ≤ st) = false := decide_eq_false q
   have d2 : decide (st < 5) = true := decide_eq_true (by omega)
   simp (disch := first|exact dis|fail) only [go_sem, simprocAttr, ↓EU_rg, stageOver_ev ht, d1, d2, if_neg q, hf]
 obtain ⟨q, e, rfl⟩ := this
 exact e
theorem stageBytes_ev (ht : h.get tb = .cells (tryL cb tg bs st why age bv qv f) 0) {b : List UInt8} (hs : SL byteE 1 h bv b) (hl : b.length < 900000) : WPo (EF Tryz.prog O0 14 [ptr tb 0] h) fun q => OW byteE 1 q.2 q.1 b ∧ Fresh h.next q.1 ∧ Ext h q.2 := by
 unfold tryL at ht
 obtain ⟨ab, kb, e⟩ := hs.val
 subst e
 rw [EF_body (O := O0) (by kernel_rfl) Tryz.func14 rfl (rs := [.tmp 2]) rfl (bad := []) (by kernel_rfl) _ _ (m := 8) rfl]
 simp (disch := first|exact dis|fail) only [go_sem, simprocAttr, ↓EU_rg, ht]
 repeat refine WPo_ob ?_
 refine (clone_ev b _ h hs hl).mono ?_
 rintro ⟨w, h1⟩ ⟨o1, f1, x1⟩
 simp only at o1 f1 x1
 simp (disch := first|exact dis|fail) only [go_sem, simprocAttr, ↓EU_rg]
 exact ⟨o1, f1, x1⟩
theorem stepOver_ev (ht : h.get tb = .cells (tryL cb tg bs st why age bv qv f) 0) (ho : 5 ≤ st) : EF Tryz.prog O0 10 [ptr tb 0] h = some (.tuple ⟨[.int .i64 st, .int .i64 why]⟩, h) := by
 have : WPo (EF Tryz.prog O0 10 [ptr tb 0] h) fun q => q = (.tuple ⟨[.int .i64 st, .int .i64 why]⟩, h) := by
  have hO := stageOver_ev ht
  rw [decide_eq_true ho] at hO
  unfold tryL at ht
  rw [EF_body (O := O0) (by kernel_rfl) Tryz.func10 rfl (rs := [.tmp 2, .tmp 3]) rfl (bad := []) (by kernel_rfl) _ _ (m := 35) rfl]
  simp (disch := first|exact dis|fail) only [go_sem, simprocAttr, ↓EU_rg, ht, hO]
 obtain ⟨q, e, rfl⟩ := this
 exact e
theorem step_ev (ht : h.get tb = .cells (tryL cb tg bs st why age bv qv f) 0) (h0 : 0 ≤ st) (ho : st < 5) {R Q : Value × Heap → Prop} (hn : WPo (EF Tryz.prog O0 35 [ptr tb 0, .int .i64 (st + 1)] h) R)
  (k : ∀ r, R r → ∃ e age' bv' qv', r.1 = .int .i64 e ∧ r.2.get tb = .cells (tryL cb tg bs st why age' bv' qv' f) 0 ∧ (e = 0 → Q (.tuple ⟨[.int .i64 (st + 1), .int .i64 why]⟩, r.2.set tb (.cells (tryL cb tg bs (st + 1) why age' bv' qv' f) 0))) ∧ (e ≠ 0 → Q (.tuple ⟨[.int .i64 6, .int .i64 e]⟩, r.2.set tb (.cells (tryL cb tg bs 6 e age' bv' qv' f) 0)))) :
  WPo (EF Tryz.prog O0 10 [ptr tb 0] h) Q := by
 have hO := stageOver_ev ht
 rw [decide_eq_false (by omega)] at hO
 have hw : wrapF .i64 (st + 1) = st + 1 := wrap64 (by omega)
 rw [EF_body (O := O0) (by kernel_rfl) Tryz.func10 rfl (rs := [.tmp 2, .tmp 3]) rfl (bad := []) (by kernel_rfl) _ _ (m := 35) rfl]
 have ht' := ht
 unfold tryL at ht'
 simp (disch := first|exact dis|fail) only [go_sem, simprocAttr, ↓EU_rg, ht', hO, hw]
 repeat refine WPo_ob ?_
 refine hn.mono ?_
 rintro ⟨w, h1⟩ hr
 obtain ⟨e, age', bv', qv', e1, hg, k1, k2⟩ := k _ hr
 simp only at e1 hg k1 k2
 subst e1
 obtain ⟨vf, hF⟩ := stageFail_ev hg e
 unfold tryL at *
 by_cases q : e = 0
 ·subst q
  simp (disch := first|exact dis|fail) only [go_sem, simprocAttr, ↓EU_rg, hg, hw]
  exact k1 rfl
 ·have hd : decide (e = 0) = false := decide_eq_false q
  simp (disch := first|exact dis|fail) only [go_sem, simprocAttr, ↓EU_rg, hd, hF]
  exact k2 q
end
theorem ifF_nil (b : Bool) (f : Flt) : ifF b f = [] ↔ b = false := by cases b <;> simp [ifF]
theorem flts_nil (id : Int) (p : Option Item) (x : Item) : flts id (chks p x) = [] ↔ (imay x && !ordBad p x) = true := by
 have e1 : imay x = (!idBad x && (wgood x.w && !lagBad x)) := by
  unfold imay idBad lagBad
  have a1 : decide (x.id < 0) = !decide (0 ≤ x.id) := by by_cases h : 0 ≤ x.id <;> simp [h, Int.not_lt.2, Int.not_le.1] <;> omega
  have a2 : decide (1073741824 < x.id) = !decide (x.id ≤ 1073741824) := by by_cases h : x.id ≤ 1073741824 <;> simp [h] <;> omega
  have a3 : decide (x.lag < -1125899906842624) = !decide (-1125899906842624 ≤ x.lag) := by by_cases h : -1125899906842624 ≤ x.lag <;> simp [h] <;> omega
  have a4 : decide (1125899906842624 < x.lag) = !decide (x.lag ≤ 1125899906842624) := by by_cases h : x.lag ≤ 1125899906842624 <;> simp [h] <;> omega
  rw [a1, a2, a3, a4]
  cases decide (0 ≤ x.id) <;> cases decide (x.id ≤ 1073741824) <;> cases wgood x.w <;> cases decide (-1125899906842624 ≤ x.lag) <;> cases decide (x.lag ≤ 1125899906842624) <;> rfl
 rw [e1]
 unfold flts chks
 cases idBad x <;> cases ordBad p x <;> cases wgood x.w <;> cases lagBad x <;> simp
theorem fGo_nil : ∀ (p : Option Item) (l : List Item), fGo p l = [] ↔ ordOk p l = true
 | none, [] => by simp [fGo, ordOk]
 | some y, [] => by simp [fGo, ordOk]
 | none, x :: l => by
  simp only [fGo, List.append_eq_nil_iff, flts_nil, fGo_nil (some x) l, ordOk, ordBad, Bool.not_false, Bool.and_true, Bool.and_eq_true]
 | some y, x :: l => by
  have e : ordBad (some y) x = !decide (y.id < x.id) := by
   unfold ordBad
   by_cases h : y.id < x.id <;> simp [h] <;> omega
  simp only [fGo, List.append_eq_nil_iff, flts_nil, fGo_nil (some x) l, ordOk, e, Bool.not_not, Bool.and_eq_true, and_assoc]
theorem formF_nil (c : Int) (l : List Item) : formF c l = [] ↔ goodF c l = true := by
 unfold formF goodF
 simp only [List.append_eq_nil_iff, fGo_nil, ifF_nil]
 have h1 : l.all neg = !l.any lagOk := by
  rw [List.all_eq_not_any_not]
  congr 2
  funext x
  unfold neg lagOk
  by_cases h : x.lag < 0 <;> simp [h] <;> omega
 rw [h1]
 by_cases h64 : l.length ≤ 64
 ·have d1 : decide (64 < (l.length : Int)) = false := decide_eq_false (by omega)
  rw [d1, decide_eq_true h64]
  by_cases h0 : l.length = 0
  ·have d2 : decide ((l.length : Int) > 0) = false := decide_eq_false (by omega)
   rw [d2, decide_eq_true h0]
   cases ordOk none l <;> cases l.any (byId c) <;> cases decide (c = -1) <;> simp
  ·have d2 : decide ((l.length : Int) > 0) = true := decide_eq_true (by omega)
   rw [d2, decide_eq_false h0]
   cases ordOk none l <;> cases l.any (byId c) <;> cases decide (c = -1) <;> cases l.any lagOk <;> simp
 ·have d1 : decide (64 < (l.length : Int)) = true := decide_eq_true (by omega)
  rw [d1, decide_eq_false h64]
  simp
theorem len0 {α : Type} (l : List α) : decide ((l.length : Int) = 0) = true ↔ l = [] := by
 rw [decide_eq_true_eq]
 constructor
 ·intro h; exact List.length_eq_zero_iff.1 (by omega)
 ·rintro rfl; rfl
noncomputable def Ord (l : List Item) : Prop := l.Pairwise fun x y => x.id < y.id
theorem ordOk_ord : ∀ (p : Option Item) (l : List Item), ordOk p l = true → Ord l ∧ ∀ y, p = some y → ∀ x ∈ l, y.id < x.id
 | _, [], _ => ⟨List.Pairwise.nil, fun _ _ _ h => by cases h⟩
 | none, x :: l, h => by
  simp only [ordOk, Bool.and_eq_true] at h
  obtain ⟨h1, h2⟩ := ordOk_ord (some x) l h.2
  exact ⟨List.Pairwise.cons (h2 x rfl) h1, fun y e => by cases e⟩
 | some y, x :: l, h => by
  simp only [ordOk, Bool.and_eq_true, decide_eq_true_eq] at h
  obtain ⟨h1, h2⟩ := ordOk_ord (some x) l h.2.2
  refine ⟨List.Pairwise.cons (h2 x rfl) h1, fun z e w hw => ?_⟩
  cases e
  rcases List.mem_cons.1 hw with rfl | hw
  ·exact h.2.1
  ·exact Int.lt_trans h.2.1 (h2 x rfl w hw)
theorem good_ord {c : Int} {l : List Item} (h : goodF c l = true) : Ord l := by
 unfold goodF at h
 simp only [Bool.and_eq_true] at h
 exact (ordOk_ord none l h.2.2.1).1
theorem ord_uniq {l : List Item} (h : Ord l) : ∀ x ∈ l, ∀ y ∈ l, x.id = y.id → x = y := by
 induction l with
 | nil => intro x hx; cases hx
 | cons a l ih =>
  obtain ⟨h1, h2⟩ := List.pairwise_cons.1 h
  intro x hx y hy e
  rcases List.mem_cons.1 hx with e1 | e1 <;> rcases List.mem_cons.1 hy with e2 | e2
  ·rw [e1, e2]
  ·have := h1 y e2; rw [e1] at e; omega
  ·have := h1 x e1; rw [e2] at e; omega
  ·exact ih h2 x e1 y e2 e
theorem ord_ext : ∀ (l m : List Item), Ord l → Ord m → (∀ x, x ∈ l ↔ x ∈ m) → l = m
 | [], [], _, _, _ => rfl
 | [], b :: m, _, _, h => by have := (h b).2 (List.mem_cons_self ..); cases this
 | a :: l, [], _, _, h => by have := (h a).1 (List.mem_cons_self ..); cases this
 | a :: l, b :: m, hl, hm, h => by
  obtain ⟨l1, l2⟩ := List.pairwise_cons.1 hl
  obtain ⟨m1, m2⟩ := List.pairwise_cons.1 hm
  have e : a = b := by
   rcases List.mem_cons.1 ((h a).1 (List.mem_cons_self ..)) with q | q
   ·exact q
   ·rcases List.mem_cons.1 ((h b).2 (List.mem_cons_self ..)) with r | r
    ·exact r.symm
    ·have := m1 a q; have := l1 b r; omega
  subst e
  rw [ord_ext l m l2 m2 fun x => ?_]
  constructor
  ·intro hx
   rcases List.mem_cons.1 ((h x).1 (List.mem_cons_of_mem _ hx)) with q | q
   ·subst q; have := l1 x hx; omega
   ·exact q
  ·intro hx
   rcases List.mem_cons.1 ((h x).2 (List.mem_cons_of_mem _ hx)) with q | q
   ·subst q; have := m1 x hx; omega
   ·exact q
theorem any_id {l : List Item} {i : Int} : l.any (byId i) = true ↔ ∃ x ∈ l, x.id = i := by
 rw [List.any_eq_true]
 simp [byId]
theorem fndR_mem {l : List Item} {i : Int} (h : l.any (byId i) = true) : fndR i l ∈ l ∧ (fndR i l).id = i := by
 obtain ⟨k, x, e1, e2, e3⟩ := idx_any h
 unfold fndR
 rw [e3]
 have := List.find?_some e3
 simp only [byId, decide_eq_true_eq] at this
 exact ⟨List.mem_of_getElem? e2, this⟩
theorem fndR_of {l : List Item} (ho : Ord l) {x : Item} (hx : x ∈ l) : l.any (byId x.id) = true ∧ fndR x.id l = x := by
 have h : l.any (byId x.id) = true := any_id.2 ⟨x, hx, rfl⟩
 obtain ⟨h1, h2⟩ := fndR_mem h
 exact ⟨h, ord_uniq ho _ h1 _ hx h2⟩
theorem wantF_nil {l : List Item} {x : Item} : wantF l x = [] ↔ x ∈ l ∧ fndR x.id l = x ∨ l.any (byId x.id) = true ∧ fndR x.id l = x := by
 unfold wantF
 cases h : l.any (byId x.id) with
 | false =>
  rw [if_neg (by simp)]
  constructor
  ·intro e; cases e
  ·rintro (⟨hx, _⟩ | ⟨e, _⟩)
   ·have := any_id.2 ⟨x, hx, rfl⟩; rw [h] at this; cases this
   ·cases e
 | true =>
  rw [if_pos rfl]
  obtain ⟨h1, h2⟩ := fndR_mem h
  simp only [List.append_eq_nil_iff, ifF_nil, Bool.not_eq_false', decide_eq_true_eq]
  constructor
  ·rintro ⟨a, b⟩
   refine .inr ⟨trivial, ?_⟩
   generalize fndR x.id l = y at *
   cases x; cases y
   simp only at h2 a b
   subst h2; subst a; subst b; rfl
  ·rintro (⟨_, e⟩ | ⟨_, e⟩) <;> (rw [e]; exact ⟨rfl, rfl⟩)
theorem flat_nil {α β : Type} {f : α → List β} {l : List α} : l.flatMap f = [] ↔ ∀ x ∈ l, f x = [] := by
 rw [List.flatMap_eq_nil_iff]
theorem diffF_nil {c1 c2 : Int} {l m : List Item} (hl : Ord l) (hm : Ord m) : diffF c1 l c2 m = [] ↔ c1 = c2 ∧ l = m := by
 unfold diffF
 simp only [List.append_eq_nil_iff, ifF_nil, Bool.not_eq_false', decide_eq_true_eq, flat_nil]
 constructor
 ·rintro ⟨⟨h1, h2⟩, h3⟩
  refine ⟨h3, ord_ext l m hl hm fun x => ?_⟩
  have sub : ∀ y ∈ m, y ∈ l := fun y hy => by
   rcases wantF_nil.1 (h1 y hy) with ⟨q, _⟩ | ⟨q, e⟩
   ·exact q
   ·rw [← e]; exact (fndR_mem q).1
  refine ⟨fun hx => ?_, sub x⟩
  have := h2 x hx
  unfold gotF at this
  rw [ifF_nil, Bool.not_eq_false'] at this
  obtain ⟨y, hy, e⟩ := any_id.1 this
  rw [← ord_uniq hl y (sub y hy) x hx e]
  exact hy
 ·rintro ⟨rfl, rfl⟩
  refine ⟨⟨fun x hx => wantF_nil.2 (.inl ⟨hx, (fndR_of hl hx).2⟩), fun x hx => ?_⟩, rfl⟩
  unfold gotF
  rw [ifF_nil, (fndR_of hl hx).1]
  rfl
theorem faults_same {c1 c2 : Int} {l m : List Item} (hg : goodF c2 m = true) : decide (((faultsF c1 l c2 m).length : Int) = 0) = (decide (c1 = c2) && decide (l = m)) := by
 rw [Bool.eq_iff_iff, len0]
 simp only [Bool.and_eq_true, decide_eq_true_eq]
 unfold faultsF
 by_cases h : formF c1 l = []
 ·rw [h, if_neg (by simp)]
  exact diffF_nil (good_ord ((formF_nil c1 l).1 h)) (good_ord hg)
 ·have hlen : decide (((formF c1 l).length : Int) > 0) = true := by
   rw [decide_eq_true_eq]
   have : (formF c1 l).length ≠ 0 := fun e => h (List.length_eq_zero_iff.1 e)
   omega
  rw [if_pos hlen]
  constructor
  ·intro e; exact (h e).elim
  ·rintro ⟨rfl, rfl⟩
   exact ((h ((formF_nil _ _).2 hg))).elim
theorem near_good {base cur : Int} {l : List Item} (h : goodF cur l = true) : Near base (l.map (ptI base)) := fun p hp => by
 obtain ⟨x, hx, rfl⟩ := List.mem_map.1 hp
 have := lnMay_facts (lnGood_may h x hx)
 have e : (ptI base x).v = base - x.lag := rfl
 rw [e]
 omega
section
variable {cb tb : Nat} {h : Heap} {tg bs st why age : Int} {bv qv : Value} {f : Nat → Bool}
theorem PQ.modT {b lb : Nat} {v : Value} {tag base cur : Int} {l : List Pnt} {h' : Heap} (q : PQ h b lb v tag base cur l) (ht : h.get tb = .cells (tryL cb tg bs st why age bv qv f) 0) (m : Mod (fun j => j = tb) h h') : PQ h' b lb v tag base cur l := by
 refine q.mod m (fun e => ?_) (fun e => ?_) (fun j hj e => ?_)
 ·have := q.gb; rw [e, ht] at this; unfold tryL at this; cases this
 ·have := q.lq.gb; rw [e, ht] at this; unfold tryL at this; cases this
 ·rw [e] at hj; exact ow_ne q.lq.ow ht (by decide) hj
theorem CQ.tne {qb lb mb : Nat} {v : Value} {tag base cur : Int} {l : List Pnt} {idle cage : Int} {c : Nat} (q : CQ h c qb lb mb v tag base cur l idle cage) (ht : h.get tb = .cells (tryL cb tg bs st why age bv qv f) 0) : c ≠ tb := fun e => by
 have := q.gb; rw [e, ht] at this; unfold tryL at this; cases this
theorem CQ.modT {qb lb mb : Nat} {v : Value} {tag base cur : Int} {l : List Pnt} {idle cage : Int} {c : Nat} {h' : Heap} (q : CQ h c qb lb mb v tag base cur l idle cage) (ht : h.get tb = .cells (tryL cb tg bs st why age bv qv f) 0) (m : Mod (fun j => j = tb) h h') : CQ h' c qb lb mb v tag base cur l idle cage := by
 refine ⟨Nat.lt_of_lt_of_le q.lt m.le, (m.old c q.lt (q.tne ht)).trans q.gb, Nat.lt_of_lt_of_le q.ml m.le, q.mp.mod q.ml m fun e => ?_, q.pq.modT ht m⟩
 exact q.mne ht e.symm
theorem OW.modT {b : List UInt8} {u : Value} {h' : Heap} (o : OW byteE 1 h u b) (ht : h.get tb = .cells (tryL cb tg bs st why age bv qv f) 0) (m : Mod (fun j => j = tb) h h') : OW byteE 1 h' u b :=
 o.mod m fun j hj e => by rw [e] at hj; exact ow_ne o ht (by decide) hj
theorem setM (h : Heap) (tb : Nat) (x : Blk) : Mod (fun j => j = tb) h (h.set tb x) := Mod.set (Mod.refl _ h) tb x fun _ => rfl
end
noncomputable def noF : Nat → Bool := fun _ => false
structure KF (cb tb : Nat) (tag to base cur : Int) (l : List Item) (i : Nat) (h : Heap) : Prop where
 tl : tb < h.next
 sp : ∃ bv qv, h.get tb = .cells (tryL cb to base ((min i 5 : Nat) : Int) 0 0 bv qv noF) 0 ∧
  (∃ qb lb mb v bs, CQ h cb qb lb mb v (if i < 5 then tag else to) bs cur (l.map (ptI bs)) 0 0 ∧ bgood bs = true) ∧ (i < 2 → bv = noS) ∧ (2 ≤ i → OW byteE 1 h bv (sealN (encF tag cur l))) ∧ (i = 3 ∨ i = 4 → ∃ qb lb v, qv = ptr qb 0 ∧ PQ h qb lb v to base cur (l.map (ptI base)))
theorem KF.ext {cb tb : Nat} {tag to base cur : Int} {l : List Item} {i : Nat} {h h' : Heap} (k : KF cb tb tag to base cur l i h) (x : Ext h h') : KF cb tb tag to base cur l i h' := by
 obtain ⟨tl, bv, qv, h1, ⟨qb, lb, mb, v, bs, h2, hbb⟩, h3, h4, h5⟩ := k
 refine ⟨Nat.lt_of_lt_of_le tl x.le, bv, qv, (x.old tb tl).trans h1, ⟨qb, lb, mb, v, bs, h2.ext x, hbb⟩, h3, fun h => (h4 h).ext x, fun h => ?_⟩
 obtain ⟨qb, lb, v, e, p⟩ := h5 h
 exact ⟨qb, lb, v, e, p.ext x⟩
theorem chP_v (p : Pnt) : (chP p).v = p.v + wstep p.w := by
 unfold chP dayP
 split <;> rfl
theorem chP_w (p : Pnt) : (chP p).w = p.w := by
 unfold chP dayP
 split <;> rfl
theorem growB_cases (base : Int) (l : List Pnt) : growB base l = base ∨ ∃ p ∈ l, growB base l = p.v := by
 unfold growB
 cases hs : someP l with
 | false => exact .inl (if_neg (by decide))
 | true =>
  rw [if_pos rfl]
  split
  ·refine .inr ⟨_, leastP_mem fun e => ?_, rfl⟩
   rw [e] at hs
   cases hs
  ·exact .inl rfl
structure LG0 (D base cur : Int) (l : List Pnt) : Prop where
 len : l.length ≤ 64
 cu : cur = -1 ∨ ∃ p ∈ l, p.id = cur
 pt : ∀ p ∈ l, (0 ≤ p.id ∧ p.id ≤ 1073741824) ∧ (1 ≤ p.w ∧ p.w ≤ 20) ∧ -D ≤ base - p.v ∧ base - p.v ≤ 1125899906842624
 od : l.Pairwise fun a b => a.id < b.id
structure LG (D base cur : Int) (l : List Pnt) : Prop extends LG0 D base cur l where
 so : l = [] ∨ ∃ p ∈ l, p.v ≤ base
theorem ordOk_iff : ∀ (l : List Item) (p : Option Item), ordOk p l = true ↔ (∀ x ∈ l, imay x = true) ∧ l.Pairwise (fun a b => a.id < b.id) ∧ ∀ y, p = some y → ∀ x ∈ l, y.id < x.id
 | [], p => ⟨fun _ => ⟨fun x h => (by cases h), List.Pairwise.nil, fun y _ x h => (by cases h)⟩, fun _ => (by cases p <;> rfl)⟩
 | x :: l, p => by
  have ih := ordOk_iff l (some x)
  have key : ordOk p (x :: l) = true ↔ imay x = true ∧ (∀ y, p = some y → y.id < x.id) ∧ ordOk (some x) l = true := by
   cases p with
   | none => simp [ordOk]
   | some q => simp [ordOk]
  rw [key, ih, List.pairwise_cons]
  constructor
  ·rintro ⟨h1, h2, h3, h4, h5⟩
   have h5 := h5 x rfl
   refine ⟨fun y hy => ?_, ⟨h5, h4⟩, fun y e z hz => ?_⟩
   ·rcases List.mem_cons.1 hy with rfl | hy
    ·exact h1
    ·exact h3 y hy
   ·rcases List.mem_cons.1 hz with rfl | hz
    ·exact h2 y e
    ·have := h2 y e; have := h5 z hz; omega
  ·rintro ⟨h1, ⟨h2, h3⟩, h4⟩
   exact ⟨h1 x (List.mem_cons_self ..), fun y e => h4 y e x (List.mem_cons_self ..), fun y hy => h1 y (List.mem_cons_of_mem _ hy), h3, fun y e z hz => by cases e; exact h2 z hz⟩
theorem imay_iff (x : Item) : imay x = true ↔ (0 ≤ x.id ∧ x.id ≤ 1073741824) ∧ (1 ≤ x.w ∧ x.w ≤ 20) ∧ -1125899906842624 ≤ x.lag ∧ x.lag ≤ 1125899906842624 := by
 unfold imay wgood
 simp only [Bool.and_eq_true, decide_eq_true_eq]
 constructor
 ·rintro ⟨a, b, ⟨c, d⟩, e, f⟩; exact ⟨⟨a, b⟩, ⟨c, d⟩, e, f⟩
 ·rintro ⟨⟨a, b⟩, ⟨c, d⟩, e, f⟩; exact ⟨a, b, ⟨c, d⟩, e, f⟩
theorem goodF_iff (base cur : Int) (l : List Pnt) : goodF cur (l.map (itP base)) = true ↔ LG 1125899906842624 base cur l := by
 unfold goodF
 simp only [Bool.and_eq_true, Bool.or_eq_true, decide_eq_true_eq, List.any_map, List.any_eq_true, List.length_map, ordOk_iff, List.pairwise_map, List.mem_map, byId, lagOk, Function.comp]
 constructor
 ·rintro ⟨h1, h2, ⟨h3, h4, _⟩, h5⟩
  refine ⟨⟨h1, h2, fun p hp => ?_, h4⟩, ?_⟩
  ·have := (imay_iff _).1 (h3 _ ⟨p, hp, rfl⟩)
   exact this
  ·rcases h5 with h5 | ⟨p, hp, h5⟩
   ·exact .inl (List.length_eq_zero_iff.1 h5)
   ·refine .inr ⟨p, hp, ?_⟩
    have : 0 ≤ base - p.v := h5
    omega
 ·rintro ⟨⟨h1, h2, h3, h4⟩, h5⟩
  refine ⟨h1, h2, ⟨?_, h4, fun y e => by cases e⟩, ?_⟩
  ·rintro x ⟨p, hp, rfl⟩
   exact (imay_iff _).2 (h3 p hp)
  ·rcases h5 with h5 | ⟨p, hp, h5⟩
   ·exact .inl (by rw [h5]; rfl)
   ·refine .inr ⟨p, hp, ?_⟩
    show 0 ≤ base - p.v
    omega
theorem LG0.grow {D base cur : Int} {l : List Pnt} (h : LG0 D base cur l) (hD : 0 ≤ D) : LG D (growB base l) cur l := by
 by_cases hl : l = []
 ·subst hl
  exact ⟨⟨h.len, h.cu, fun p hp => (by cases hp), h.od⟩, .inl rfl⟩
 have hs : someP l = true := by
  unfold someP
  rw [decide_eq_false fun e => hl (List.length_eq_zero_iff.1 e)]; rfl
 have hm := leastP_mem hl
 have e : growB base l = if (leastP l).v > base then (leastP l).v else base := by unfold growB; rw [hs, if_pos rfl]
 by_cases q : (leastP l).v > base
 ·rw [e, if_pos q]
  refine ⟨⟨h.len, h.cu, fun p hp => ?_, h.od⟩, .inr ⟨_, hm, Int.le_refl _⟩⟩
  have h1 := h.pt p hp
  have h2 := leastP_le hp
  exact ⟨h1.1, h1.2.1, by omega, by omega⟩
 ·rw [e, if_neg q]
  exact ⟨h, .inr ⟨_, hm, by omega⟩⟩
theorem LG.least {D base cur : Int} {l : List Pnt} (h : LG D base cur l) (hl : l ≠ []) : (leastP l).v ≤ base := by
 rcases h.so with e | ⟨p, hp, e⟩
 ·exact absurd e hl
 ·have := leastP_le hp; omega
theorem growB_ge (base : Int) (l : List Pnt) : base ≤ growB base l := by
 unfold growB
 split
 ·split <;> omega
 ·exact Int.le_refl _
theorem growB_le {base M : Int} {l : List Pnt} (h : base ≤ M) (hv : ∀ p ∈ l, p.v ≤ M) : growB base l ≤ M := by
 rcases growB_cases base l with e | ⟨p, hp, e⟩
 ·rw [e]; exact h
 ·rw [e]; exact hv p hp
theorem od_inj {l : List Pnt} (h : l.Pairwise fun a b => a.id < b.id) {p q : Pnt} (hp : p ∈ l) (hq : q ∈ l) (e : p.id = q.id) : p = q := by
 obtain ⟨i, hi, rfl⟩ := List.getElem_of_mem hp
 obtain ⟨j, hj, rfl⟩ := List.getElem_of_mem hq
 have hh := List.pairwise_iff_getElem.1 h
 rcases Nat.lt_trichotomy i j with q | q | q
 ·have := hh i j hi hj q; omega
 ·subst q; rfl
 ·have := hh j i hj hi q; omega
theorem nowI_get {cur : Int} {l : List Pnt} {i : Nat} (h : nowI cur l = some i) : ∃ x, l[i]? = some x ∧ x.id = cur ∧ x ∈ l ∧ l.getD i zP = x := by
 have hil := nowI_lt h
 have hx : l[i]? = some l[i] := List.getElem?_eq_getElem hil
 refine ⟨l[i], hx, ?_, List.getElem_mem hil, by rw [List.getD_eq_getElem?_getD, hx]; rfl⟩
 unfold nowI at h
 rw [List.findIdx?_eq_some_iff_getElem] at h
 obtain ⟨_, h1, _⟩ := h
 unfold byPid at h1
 simpa using h1
theorem nowI_mem {l : List Pnt} {p : Pnt} (h : p ∈ l) : (nowI p.id l).isSome = true := by
 unfold nowI
 rw [List.findIdx?_isSome, List.any_eq_true]
 exact ⟨p, h, decide_eq_true rfl⟩
theorem LG0.set {D base cur : Int} {l : List Pnt} {i : Nat} {x y : Pnt} (h : LG0 D base cur l) (hx : l[i]? = some x) (hid : y.id = x.id) (hw : 1 ≤ y.w ∧ y.w ≤ 20) (hv : -D ≤ base - y.v ∧ base - y.v ≤ 1125899906842624) : LG0 D base cur (l.set i y) := by
 have hil := (List.getElem?_eq_some_iff.1 hx).1
 have hxe : l[i] = x := (List.getElem?_eq_some_iff.1 hx).2
 have hxm : x ∈ l := List.mem_of_getElem? hx
 have hym : y ∈ l.set i y := List.mem_of_getElem? (List.getElem?_set_self hil)
 have hids : (l.set i y).map Pnt.id = l.map Pnt.id := by
  apply List.ext_getElem?
  intro j
  rw [List.getElem?_map, List.getElem?_map, List.getElem?_set]
  by_cases q : i = j
  ·subst q; rw [if_pos rfl, if_pos hil, hx]; simp [hid]
  ·rw [if_neg q]
 refine ⟨by rw [List.length_set]; exact h.len, ?_, fun p hp => ?_, ?_⟩
 ·rcases h.cu with e | ⟨p, hp, e⟩
  ·exact .inl e
  ·right
   have : cur ∈ (l.set i y).map Pnt.id := by rw [hids]; exact List.mem_map.2 ⟨p, hp, e⟩
   obtain ⟨q, hq, e⟩ := List.mem_map.1 this
   exact ⟨q, hq, e⟩
 ·rcases List.mem_or_eq_of_mem_set hp with hp | rfl
  ·exact h.pt p hp
  ·have := (h.pt x hxm).1
   exact ⟨by omega, hw, hv⟩
 ·have := h.od
  have e1 : (l.map Pnt.id).Pairwise (· < ·) := List.pairwise_map.2 this
  rw [← hids] at e1
  exact List.pairwise_map.1 e1
theorem LG.calm {D base cur : Int} {l : List Pnt} (h : LG D base cur l) (hD : D ≤ 1125899906842624) (hb : -2300000000000000000 ≤ base ∧ base ≤ 2300000000000000000) : Calm l := fun p hp => by
 have := h.pt p hp
 exact ⟨by omega, this.2.1⟩
theorem LG.near {D base cur : Int} {l : List Pnt} (h : LG D base cur l) (hD : D ≤ 1125899906842624) : Near base l := fun p hp => by
 have := h.pt p hp
 omega
theorem curR_mem {D base cur tag : Int} {l : List Pnt} (h : LG D base cur l) (ht : tgood tag = true) : curR tag cur l = -1 ∨ ∃ p ∈ l, p.id = curR tag cur l := by
 by_cases hl : l = []
 ·subst hl
  refine .inl ?_
  rcases tgood_c ht with rfl | rfl | rfl
  ·rfl
  ·unfold curR
   rw [pickI_1 _ _ fun e => by cases e.1]; rfl
  ·unfold curR
   rw [pickI_2]; rfl
 have hm := leastP_mem hl
 have hs : someP l = true := by
  unfold someP
  rw [decide_eq_false fun e => hl (List.length_eq_zero_iff.1 e)]; rfl
 rcases tgood_c ht with rfl | rfl | rfl
 ·unfold curR
  rw [pickI_0, hs]; exact .inr ⟨_, hm, rfl⟩
 ·by_cases q : (nowI cur l).isSome = true ∧ (nowP cur l).v - 465585120 ≤ (leastP l).v
  ·obtain ⟨i, hi, hx, hid⟩ := now_some q.1
   unfold curR pickI
   rw [if_pos ⟨rfl, q⟩]; exact .inr ⟨_, List.mem_of_getElem? hx, rfl⟩
  ·unfold curR
   rw [pickI_1 _ _ q, hs]; exact .inr ⟨_, hm, rfl⟩
 ·have key : ∀ (S T lv : Int) (m : List Pnt) (o : Option Pnt), (∀ p, o = some p → p ∈ l) → (∀ p ∈ m, p ∈ l) → ∀ p, m.foldl (dueStep S T lv) o = some p → p ∈ l := by
   intro S T lv m
   induction m with
   | nil => intro o ho _ p e; exact ho p e
   | cons x m ih =>
    intro o ho hm p e
    rw [List.foldl_cons] at e
    refine ih _ ?_ (fun q hq => hm q (List.mem_cons_of_mem _ hq)) p e
    intro q hq
    unfold dueStep at hq
    split at hq
    ·exact ho q hq
    ·cases o with
     | none => cases hq; exact hm x (List.mem_cons_self ..)
     | some r =>
      simp only at hq
      split at hq
      ·cases hq; exact hm x (List.mem_cons_self ..)
      ·cases hq; exact ho _ rfl
  unfold curR
  rw [pickI_2]
  cases hb : dueBest l with
  | none => exact .inl rfl
  | some p => exact .inr ⟨p, key _ _ _ l none (fun p e => (by cases e)) (fun p hp => hp) p hb, rfl⟩
theorem rstep_ev (a : Int) (h : Heap) : EF Tryz.prog O0 52 [.int .i64 a] h = some (.int .i64 (wstep a), h) := by
 have : WPo (EF Tryz.prog O0 52 [.int .i64 a] h) fun q => q = (.int .i64 (wstep a), h) := by
  unfold wstep
  rw [EF_body (O := O0) (by kernel_rfl) Tryz.func52 rfl (rs := [.tmp 2]) rfl (bad := []) (by kernel_rfl) _ _ (m := 8) rfl]
  cases hg : wgood a with
  | false =>
   rw [if_neg (by decide)]
   simp (disch := first|exact dis|fail) only [go_sem, simprocAttr, ↓EU_rg, rwGood_ev, hg]
  | true =>
   have hf := wgood_facts hg
   have hq := fun x y => bin_quo Tryz.prog 2 x y .i64 232792560 a (by omega)
   have hr : 0 ≤ (232792560 : Int).tdiv a ∧ (232792560 : Int).tdiv a ≤ 232792560 := by
    refine ⟨Int.tdiv_nonneg (by decide) (by omega), ?_⟩
    exact Int.tdiv_le_self _ (by decide)
   have hw : wrapF .i64 ((232792560 : Int).tdiv a) = (232792560 : Int).tdiv a := wrap64 (by omega)
   rw [if_pos rfl]
   simp (disch := first|exact dis|fail) only [go_sem, simprocAttr, ↓EU_rg, rwGood_ev, hg, hq, hw]
 obtain ⟨q, e, rfl⟩ := this
 exact e
theorem rday_ev (a : Int) (h : Heap) : EF Tryz.prog O0 44 [.int .i64 a] h = some (.int .i64 (4 * wstep a), h) := by
 have : WPo (EF Tryz.prog O0 44 [.int .i64 a] h) fun q => q = (.int .i64 (4 * wstep a), h) := by
  have hw := wstep_le a
  have w1 : wrapF .i64 (4 * wstep a) = 4 * wstep a := wrap64 (by omega)
  rw [EF_body (O := O0) (by kernel_rfl) Tryz.func44 rfl (rs := [.tmp 2]) rfl (bad := []) (by kernel_rfl) _ _ (m := 6) rfl]
  simp (disch := first|exact dis|fail) only [go_sem, simprocAttr, ↓EU_rg, rstep_ev, w1]
 obtain ⟨q, e, rfl⟩ := this
 exact e
structure RQ (h : Heap) (b : Nat) (v : Value) (tag base cur : Int) (l : List Pnt) : Prop where
 lt : b < h.next
 gb : h.get b = .cells [.int .i64 tag, .int .i64 base, .int .i64 cur, v] 0
 ow : OW pntE 4 h v l
theorem RQ.mod {S : Nat → Prop} {h h' : Heap} {b : Nat} {v : Value} {tag base cur : Int} {l : List Pnt} (q : RQ h b v tag base cur l) (x : Mod S h h') (h1 : ¬ S b) (h2 : ∀ i, blkOf v i → ¬ S i) : RQ h' b v tag base cur l := ⟨Nat.lt_of_lt_of_le q.lt x.le, (x.old b q.lt h1).trans q.gb, q.ow.mod x h2⟩
theorem RQ.ext {h h' : Heap} {b : Nat} {v : Value} {tag base cur : Int} {l : List Pnt} (q : RQ h b v tag base cur l) (x : Ext h h') : RQ h' b v tag base cur l := q.mod (x.mod fun _ => False) (fun q => q) fun _ _ q => q
theorem RQ.nb {h : Heap} {b : Nat} {v : Value} {tag base cur : Int} {l : List Pnt} (q : RQ h b v tag base cur l) : ¬ blkOf v b := ow_ne q.ow q.gb (by decide)
theorem rqat_ev {b : Nat} {v : Value} {tag base cur : Int} {l : List Pnt} {h : Heap} (q : RQ h b v tag base cur l) (hl : l.length < 900000) (id : Int) : EF Tryz.prog O0 51 [ptr b 0, .int .i64 id] h = some (.int .i64 (idx (byPid id) l), h) := by
 have : WPo (EF Tryz.prog O0 51 [ptr b 0, .int .i64 id] h) fun r => r = (.int .i64 (idx (byPid id) l), h) := by
  have g := q.gb
  obtain ⟨a, c, hv⟩ := q.ow.val
  subst hv
  rw [EF_body (O := O0) (by kernel_rfl) Tryz.func51 rfl (rs := [.tmp 4]) rfl (bad := []) (by kernel_rfl) _ _ (m := 26) rfl]
  simp (disch := first|exact dis|fail) only [go_sem, simprocAttr, ↓EU_rg]
  repeat refine WPo_ob ?_
  refine (LP_rule (fun m st => ∃ (i : Nat) (tm : Fr), st = ⟨tm, h, []⟩ ∧ m = l.length - i ∧ i ≤ l.length ∧ Fr.get tm 0 = ptr b 0 ∧ Fr.get tm 1 = .int .i64 id ∧ Fr.get tm 5 = .int .i64 i ∧ ∀ j y, j < i → l[j]? = some y → byPid id y = false)
   (fun q => ∃ tm, q.2 = ⟨tm, h, []⟩ ∧ ((q.1 = .exit 0 ∧ idx (byPid id) l = -1) ∨ (q.1 = .ret ∧ Fr.get tm 4 = .int .i64 (idx (byPid id) l)))) ?_ l.length _ _ ?_ ?_).mono ?_
  ·rintro m _ ⟨i, tm, rfl, rfl, hi, g0, g1, g5, hn⟩
   simp (disch := first|exact dis|fail) only [go_sem, simprocAttr, ↓EU_rg, g0, g1, g5, g]
   ((repeat refine WPo_ob ?_); (first | refine WPo_cond (fun b1 => ?_) (fun b1 => ?_) | refine WPo_gard (fun b1 => ?_) (fun b1 => ?_) | refine WPo_gardT (fun b1 => ?_) (fun b1 => ?_)) <;> (try simp only [Bool.not_eq_true', Bool.not_eq_false'] at b1))
   ·have b1' := b1
    simp only [decide_eq_true_eq] at b1'
    have hi' : i < l.length := by omega
    obtain ⟨x, hx⟩ : ∃ x, l[i]? = some x := ⟨_, List.getElem?_eq_getElem hi'⟩
    obtain ⟨b', o, c', e, hb', hrd, hr⟩ := q.ow.sl.at hx rfl
    cases e
    have hr0 := hr 0 _ rfl
    rw [add_z] at hr0
    cases d : decide (x.id = id) with
    | true =>
     simp (disch := first|exact dis|fail) only [go_sem, simprocAttr, ↓EU_rg, g0, g1, g5, g, hr0, d]
     exact ⟨_, rfl, .inr ⟨trivial, by simp (disch := first|exact dis|fail) only [go_sem, simprocAttr, ↓EU_rg]; rw [idx_hit hx d hn]⟩⟩
    | false =>
     simp (disch := first|exact dis|fail) only [go_sem, simprocAttr, ↓EU_rg, g0, g1, g5, g, hr0, d]
     refine ⟨_, by omega, i + 1, _, rfl, rfl, by omega, by simp (disch := first|exact dis|fail) only [go_sem, simprocAttr, ↓EU_rg, g0], by simp (disch := first|exact dis|fail) only [go_sem, simprocAttr, ↓EU_rg, g1], by simp (disch := first|exact dis|fail) only [go_sem, simprocAttr, ↓EU_rg], fun j y hj hy => ?_⟩
     rcases Nat.lt_succ_iff_lt_or_eq.1 hj with hj | rfl
     ·exact hn j y hj hy
     ·rw [hx] at hy; cases hy; exact d
   ·simp only [decide_eq_false_iff_not] at b1
    simp (disch := first|exact dis|fail) only [go_sem, simprocAttr, ↓EU_rg]
    exact ⟨_, rfl, .inl ⟨trivial, idx_miss fun j y hj => hn j y (by omega)⟩⟩
  ·exact ⟨0, _, rfl, rfl, by omega, by simp (disch := first|exact dis|fail) only [go_sem, simprocAttr, ↓EU_rg], by simp (disch := first|exact dis|fail) only [go_sem, simprocAttr, ↓EU_rg], by simp (disch := first|exact dis|fail) only [go_sem, simprocAttr, ↓EU_rg]; all_goals rfl, fun j y hj => absurd hj (Nat.not_lt_zero _)⟩
  ·omega
  ·rintro ⟨q, _⟩ ⟨tm, rfl, ⟨rfl, e⟩ | ⟨rfl, e⟩⟩
   ·simp (disch := first|exact dis|fail) only [go_sem, simprocAttr, ↓EU_rg]
    rw [e]
   ·simp (disch := first|exact dis|fail) only [go_sem, simprocAttr, ↓EU_rg, e]
 obtain ⟨r, e, rfl⟩ := this
 exact e
theorem rqnew_ev (tag base : Int) (h : Heap) : WPo (EF Tryz.prog O0 42 [.int .i64 tag, .int .i64 base] h) fun q => Ext h q.2 ∧ if tgood tag && bgood base then ∃ b, q.1 = .tuple ⟨[ptr b 0, .int .i64 0]⟩ ∧ RQ q.2 b noS tag base (-1) [] ∧ h.next ≤ b else q.1 = .tuple ⟨[nilP, .int .i64 1]⟩ := by
 rw [EF_body (O := O0) (by kernel_rfl) Tryz.func42 rfl (rs := [.tmp 4, .tmp 5]) rfl (bad := []) (by kernel_rfl) _ _ (m := 24) rfl]
 cases hg : (tgood tag && bgood base) with
 | true =>
  have h1 := Bool.and_eq_true_iff.1 hg
  have h2 := bgood_facts h1.2
  have h3 := h1.1
  unfold tgood at h3
  simp only [Bool.and_eq_true, decide_eq_true_eq] at h3
  have d1 : decide (tag < 0) = false := decide_eq_false (by omega)
  have d2 : decide (2 < tag) = false := decide_eq_false (by omega)
  have d3 : decide (1152921504606846976 < base) = false := decide_eq_false (by omega)
  have d4 : decide (base < -1152921504606846976) = false := decide_eq_false (by omega)
  simp (disch := first|exact dis|fail) only [go_sem, simprocAttr, ↓EU_rg, d1, d2, d3, d4, if_true]
  exact ⟨by repeat (first | exact Ext.refl _ | assumption | refine Ext.push ?_ _ | refine Ext.set ?_ _ _ (by first | omega | (simp only [next_push, next_set]; omega))), _, rfl, ⟨by rw [next_push]; omega, by simp (disch := first|exact dis|fail) only [go_sem, simprocAttr, ↓EU_rg]; all_goals rfl, .nil⟩, Nat.le_refl _⟩
 | false =>
  unfold nilP
  simp (disch := first|exact dis|fail) only [go_sem, simprocAttr, ↓EU_rg, if_false, Bool.false_eq_true]
  repeat' (((repeat refine WPo_ob ?_); (first | refine WPo_cond (fun hb => ?_) (fun hb => ?_) | refine WPo_gard (fun hb => ?_) (fun hb => ?_) | refine WPo_gardT (fun hb => ?_) (fun hb => ?_)) <;> (try simp only [Bool.not_eq_true', Bool.not_eq_false'] at hb)) <;> (simp (disch := first|exact dis|fail) only [go_sem, simprocAttr, ↓EU_rg, hb, if_false, Bool.false_eq_true]))
  all_goals first | exact ⟨by repeat (first | exact Ext.refl _ | assumption | refine Ext.push ?_ _ | refine Ext.set ?_ _ _ (by first | omega | (simp only [next_push, next_set]; omega))), trivial⟩ | skip
  all_goals (exfalso; rw [Bool.and_eq_false_iff] at hg; unfold tgood bgood at hg; simp only [Bool.and_eq_false_iff, decide_eq_false_iff_not, decide_eq_true_eq] at *; omega)
set_option maxHeartbeats 1000000 in
theorem rqseed_ev (tag base cur : Int) (l : List Item) (s : Value) (h : Heap) (hs : SL itemE 3 h s l) (hl : l.length < 900000) :
  WPo (EF Tryz.prog O0 22 [.int .i64 tag, formV cur s, .int .i64 base] h) fun q => Ext h q.2 ∧ if tgood tag && (bgood base && goodF cur l) then ∃ b v, q.1 = .tuple ⟨[ptr b 0, .int .i64 0]⟩ ∧ RQ q.2 b v tag base cur (l.map (ptI base)) ∧ h.next ≤ b ∧ Fresh h.next v else q.1 = .tuple ⟨[nilP, .int .i64 1]⟩ := by
 rw [EF_body (O := O0) (by kernel_rfl) Tryz.func22 rfl (rs := [.tmp 6, .tmp 7]) rfl (bad := [8]) (by kernel_rfl) _ _ (m := 78) rfl]
 obtain ⟨a, c, hv⟩ := hs.val
 subst hv
 have hG := fun h' (x : Ext h h') => rgood_ev cur l (.slice a l.length c) h' (hs.ext x) hl
 unfold formV nilP at *
 simp (disch := first|exact dis|fail) only [go_sem, simprocAttr, ↓EU_rg]
 repeat refine WPo_ob ?_
 refine (rqnew_ev tag base _).mono ?_
 rintro ⟨w, h1⟩ ⟨x1, k⟩
 simp only at x1 k
 have hn1 := x1.le
 simp only [next_push] at hn1
 have xh1 : Ext h h1 := ((Ext.refl h).push _).trans x1
 have hf1 : h1.get h.next = .cells [.int .i64 cur, .slice a l.length c] 0 := by simp (disch := first|exact dis|fail) only [go_sem, simprocAttr, ↓EU_rg, x1.old]
 cases hg1 : (tgood tag && bgood base) with
 | false =>
  rw [hg1, if_neg (by decide)] at k
  subst k
  rw [← Bool.and_assoc, hg1]
  unfold nilP
  simp (disch := first|exact dis|fail) only [go_sem, simprocAttr, ↓EU_rg, Int.reduceEq, Bool.false_and, if_false, Bool.false_eq_true]
  exact ⟨xh1, trivial⟩
 | true =>
  rw [hg1, if_pos rfl] at k
  obtain ⟨b, e, rq, hb⟩ := k
  subst e
  simp only [next_push] at hb
  have hbf := bgood_facts (Bool.and_eq_true_iff.1 hg1).2
  rw [← Bool.and_assoc, hg1, Bool.true_and]
  have rb := rq.gb
  unfold noS at rb
  simp (disch := first|exact dis|fail) only [go_sem, simprocAttr, ↓EU_rg, hf1, decide_true]
  repeat refine WPo_ob ?_
  refine (hG h1 xh1).bind fun h2 x2 => ?_
  have xh2 := xh1.trans x2
  have rq2 := rq.ext x2
  have hf2 := (x2.old h.next (by omega)).trans hf1
  have hn2 := x2.le
  cases hgf : goodF cur l with
  | false =>
   simp (disch := first|exact dis|fail) only [go_sem, simprocAttr, ↓EU_rg, if_false, Bool.false_eq_true]
   exact ⟨xh2, trivial⟩
  | true =>
   have hmay := lnGood_may hgf
   simp (disch := first|exact dis|fail) only [go_sem, simprocAttr, ↓EU_rg, if_true]
   repeat refine WPo_ob ?_
   refine (LP_rule (fun m st => ∃ (i : Nat) (tm : Fr) (h3 : Heap) (v : Value), st = ⟨tm, h3, []⟩ ∧ m = l.length - i ∧ i ≤ l.length ∧ Fr.get tm 2 = .int .i64 base ∧ Fr.get tm 4 = ptr h.next 0 ∧ Fr.get tm 8 = ptr b 0 ∧ Fr.get tm 10 = .int .i64 i ∧ Ext h h3 ∧ h3.get h.next = .cells [.int .i64 cur, .slice a l.length c] 0 ∧ RQ h3 b v tag base (-1) ((l.take i).map (ptI base)) ∧ Fresh (h.next + 1) v)
    (fun q => ∃ tm h3 v, q.2 = ⟨tm, h3, []⟩ ∧ q.1 = .exit 0 ∧ Fr.get tm 4 = ptr h.next 0 ∧ Fr.get tm 8 = ptr b 0 ∧ Ext h h3 ∧ h3.get h.next = .cells [.int .i64 cur, .slice a l.length c] 0 ∧ RQ h3 b v tag base (-1) (l.map (ptI base)) ∧ Fresh (h.next + 1) v) ?_ l.length _ _ ?_ ?_).mono ?_
   ·rintro m _ ⟨i, tm, h3, v, rfl, rfl, hi, g2, g4, g8, g10, x3, hf3, rq3, fv⟩
    have g := rq3.gb
    simp (disch := first|exact dis|fail) only [go_sem, simprocAttr, ↓EU_rg, g4, g10, hf3]
    ((repeat refine WPo_ob ?_); (first | refine WPo_cond (fun b1 => ?_) (fun b1 => ?_) | refine WPo_gard (fun b1 => ?_) (fun b1 => ?_) | refine WPo_gardT (fun b1 => ?_) (fun b1 => ?_)) <;> (try simp only [Bool.not_eq_true', Bool.not_eq_false'] at b1))
    ·have b1' := b1
     simp only [decide_eq_true_eq] at b1'
     have hi' : i < l.length := by omega
     obtain ⟨x, hx⟩ : ∃ x, l[i]? = some x := ⟨_, List.getElem?_eq_getElem hi'⟩
     have hm := lnMay_facts (hmay x (List.mem_of_getElem? hx))
     have hst := wstep_le x.w
     have hww : wrapF .i64 (base - x.lag) = base - x.lag := wrap64 (by omega)
     have hw2 : wrapF .i64 (base - x.lag + 4 * wstep x.w) = base - x.lag + 4 * wstep x.w := wrap64 (by omega)
     obtain ⟨b', o, c', e, hb', hrd, hr⟩ := (hs.ext x3).at hx rfl
     cases e
     have hr0 := hr 0 _ rfl
     have hr1 := hr 1 _ rfl
     have hr2 := hr 2 _ rfl
     rw [add_z] at hr0
     obtain ⟨av, kv, hvv⟩ := rq3.ow.val
     subst hvv
     simp (disch := first|exact dis|fail) only [go_sem, simprocAttr, g2, g4, g8, g10, hf3, hr2, hww]
     (first | rw [EU_region] | rw [EU_draw _ _ rfl]); simp (disch := first|exact dis|fail) only [go_sem, simprocAttr, g2, g4, g8, g10, hf3, hr2, hww]
     rw [EU_bad _ _ rfl, EC_tab (tab := [(false, none), (false, none), (false, none), (false, none), (false, (some (0, 2))), (false, none), (false, (some (0, 1))), (false, none), (false, none), (false, none), (false, (some (0, 1))), (false, none), (false, (some (0, 1))), (false, none), (false, none), (false, none), (false, (some (0, 1))), (false, none), (false, none), (false, none), (false, none), (false, none), (false, none), (false, none), (false, none), (true, none), (false, none), (false, none), (true, none), (true, none), (false, none), (false, none), (true, none)]) (by kernel_rfl)]
     simp (disch := first|exact dis|fail) only [go_sem, simprocAttr, ↓EU_rg, g2, g4, g8, g10, hf3, g, hr0, hr1, hr2, hww, rday_ev, hw2]
     repeat refine WPo_ob ?_
     have hlit := OW.lit pntE_len h3 [ptI base x]
     rw [List.flatMap_cons, List.flatMap_nil, List.append_nil] at hlit
     unfold pntE ptI dayP at hlit
     have hsn : (l.take (i + 1)).map (ptI base) = (l.take i).map (ptI base) ++ [ptI base x] := by rw [List.take_add_one, hx, List.map_append]; rfl
     refine append_gr (l := (l.take i).map (ptI base)) (l' := [ptI base x]) fc_ap_92_92 pntE_len (by decide) pntE_scal (rq3.ow.ext ((Ext.refl h3).push _)) hlit.sl (by rw [List.length_map, List.length_take]; simp only [List.length_cons, List.length_nil]; omega) (by rw [List.length_map, List.length_take]; simp only [List.length_cons, List.length_nil]; omega) fun v' h4 hov' gr => ?_
     rw [← hsn] at hov'
     have hnb := rq3.nb
     have hbl := rq3.lt
     have hm1 : ∀ j, blkOf (.slice av ((l.take i).map (ptI base)).length kv) j → h.next ≤ j := fun j hj => by have := fv j hj; omega
     have g' : h4.get b = _ := (gr.old b (by rw [next_push]; omega) hnb).trans ((get_push_old _ hbl).trans g)
     have hn4 := gr.le
     rw [next_push] at hn4
     have hfv' : Fresh (h.next + 1) v' := gr.fresh fv (by rw [next_push]; have := x3.le; omega)
     obtain ⟨av', kv', hvv'⟩ := hov'.val
     subst hvv'
     have hnb' : ¬ blkOf (.slice av' ((l.take (i + 1)).map (ptI base)).length kv') b := ow_ne hov' g' (by decide)
     simp (disch := first|exact dis|fail) only [go_sem, simprocAttr, ↓EU_rg, g2, g4, g8, g10, g, g', hf3, hr0, hr1, hs.veq, rq3.ow.veq]
     have m34 : Mod (fun j => h.next + 1 ≤ j) h3 (h4.set b (.cells [.int .i64 tag, .int .i64 base, .int .i64 (-1), .slice av' ((l.take (i + 1)).map (ptI base)).length kv'] 0)) := (((Mod.refl _ h3).push _).trans (gr.mod.mono fun j _ hj => fv j hj)).set _ _ fun _ => hb
     refine ⟨_, by omega, i + 1, _, _, _, rfl, rfl, by omega, by simp (disch := first|exact dis|fail) only [go_sem, simprocAttr, ↓EU_rg, g2], by simp (disch := first|exact dis|fail) only [go_sem, simprocAttr, ↓EU_rg, g4], by simp (disch := first|exact dis|fail) only [go_sem, simprocAttr, ↓EU_rg, g8], by simp (disch := first|exact dis|fail) only [go_sem, simprocAttr, ↓EU_rg], ⟨Nat.le_trans x3.le m34.le, fun j hj => (m34.old j (Nat.lt_of_lt_of_le hj x3.le) (by omega)).trans (x3.old j hj)⟩, (m34.old h.next (Nat.lt_of_lt_of_le (by omega) (Nat.le_trans hb (Nat.le_of_lt hbl))) (by omega)).trans hf3, ⟨by rw [next_set]; omega, get_set_same _ _ _, hov'.mod (Mod.set (S := fun j => j = b) (Mod.refl _ _) _ _ fun _ => rfl) fun j hj e => hnb' (e ▸ hj)⟩, hfv'⟩
    ·simp only [decide_eq_false_iff_not] at b1
     have : i = l.length := by omega
     subst this
     rw [List.take_length] at rq3
     simp (disch := first|exact dis|fail) only [go_sem, simprocAttr, ↓EU_rg]
     exact ⟨_, _, v, rfl, trivial, by simp (disch := first|exact dis|fail) only [go_sem, simprocAttr, ↓EU_rg, g4], by simp (disch := first|exact dis|fail) only [go_sem, simprocAttr, ↓EU_rg, g8], x3, hf3, rq3, fv⟩
   ·exact ⟨0, _, _, _, rfl, rfl, by omega, by simp (disch := first|exact dis|fail) only [go_sem, simprocAttr, ↓EU_rg], by simp (disch := first|exact dis|fail) only [go_sem, simprocAttr, ↓EU_rg], by simp (disch := first|exact dis|fail) only [go_sem, simprocAttr, ↓EU_rg], by simp (disch := first|exact dis|fail) only [go_sem, simprocAttr, ↓EU_rg]; all_goals rfl, xh2, hf2, rq2, Fresh.nil _ _ _⟩
   ·omega
   ·rintro ⟨q, _⟩ ⟨tm, h3, v, rfl, rfl, g4, g8, x3, hf3, rq3, fv⟩
    have g := rq3.gb
    have hnb := rq3.nb
    simp (disch := first|exact dis|fail) only [go_sem, simprocAttr, ↓EU_rg, g4, g8, hf3, g]
    exact ⟨x3.set _ _ (by omega), b, v, rfl, ⟨by rw [next_set]; exact rq3.lt, get_set_same _ _ _, rq3.ow.mod (Mod.set (S := fun j => j = b) (Mod.refl _ _) _ _ fun _ => rfl) fun j hj e => hnb (e ▸ hj)⟩, by omega, fv.mono (by omega)⟩
set_option maxHeartbeats 1000000 in
theorem rqform_ev {tag base cur : Int} {l : List Pnt} {s : Value} {b : Nat} {h : Heap} (q : RQ h b s tag base cur l) (hl : l.length < 900000) (hw : Near base l) :
  WPo (EF Tryz.prog O0 25 [ptr b 0] h) fun q => ∃ v, q.1 = formV cur v ∧ OW itemE 3 q.2 v (l.map (itP base)) ∧ Fresh h.next v ∧ Ext h q.2 := by
 have hc := q.gb
 have hb := q.lt
 have hs := q.ow.sl
 rw [EF_body (O := O0) (by kernel_rfl) Tryz.func25 rfl (rs := [.cell 2 52]) rfl (bad := [5]) (by kernel_rfl) _ _ (m := 55) rfl]
 obtain ⟨a, c, hv⟩ := hs.val
 subst hv
 unfold formV
 simp (disch := first|exact dis|fail) only [go_sem, simprocAttr, ↓EU_rg, hc]
 repeat refine WPo_ob ?_
 refine (LP_rule (fun m st => ∃ (i : Nat) (tm : Fr) (h2 : Heap) (v : Value), st = ⟨tm, h2, []⟩ ∧ m = l.length - i ∧ i ≤ l.length ∧ Fr.get tm 0 = ptr b 0 ∧ Fr.get tm 2 = ptr h.next 0 ∧ Fr.get tm 3 = ptr (h.next + 1) 0 ∧ Fr.get tm 4 = .int .i64 i ∧ Ext h h2 ∧ (∃ w, h2.get h.next = .cells [.int .i64 0, w] 0) ∧ h2.get (h.next + 1) = .cells [.int .i64 cur, v] 0 ∧ OW itemE 3 h2 v ((l.take i).map (itP base)) ∧ Fresh (h.next + 1 + 1) v ∧ h.next + 1 < h2.next)
  (fun q => ∃ tm h2 v, q.2 = ⟨tm, h2, []⟩ ∧ q.1 = .exit 0 ∧ Fr.get tm 2 = ptr h.next 0 ∧ Fr.get tm 3 = ptr (h.next + 1) 0 ∧ Ext h h2 ∧ (∃ w, h2.get h.next = .cells [.int .i64 0, w] 0) ∧ h2.get (h.next + 1) = .cells [.int .i64 cur, v] 0 ∧ OW itemE 3 h2 v (l.map (itP base)) ∧ Fresh (h.next + 1 + 1) v ∧ h.next + 1 < h2.next) ?_ l.length _ _ ?_ ?_).mono ?_
 ·rintro m _ ⟨i, tm, h2, v, rfl, rfl, hi, g0, g2, g3, g4, x2, ⟨w, hw0⟩, hB, hov, hfv, hn2⟩
  have hc2 := (x2.old b hb).trans hc
  simp (disch := first|exact dis|fail) only [go_sem, simprocAttr, g0, g4, hc2]
  (first | rw [EU_region] | rw [EU_draw _ _ rfl]); simp (disch := first|exact dis|fail) only [go_sem, simprocAttr, g0, g4, hc2]
  ((repeat refine WPo_ob ?_); (first | refine WPo_cond (fun b1 => ?_) (fun b1 => ?_) | refine WPo_gard (fun b1 => ?_) (fun b1 => ?_) | refine WPo_gardT (fun b1 => ?_) (fun b1 => ?_)) <;> (try simp only [Bool.not_eq_true', Bool.not_eq_false'] at b1))
  ·have b1' := b1
   simp only [decide_eq_true_eq] at b1'
   have hi' : i < l.length := by omega
   obtain ⟨x, hx⟩ : ∃ x, l[i]? = some x := ⟨_, List.getElem?_eq_getElem hi'⟩
   have hwx := hw x (List.mem_of_getElem? hx)
   have hww : wrapF .i64 (base - x.v) = base - x.v := wrap64 hwx
   obtain ⟨b', o, c', e, hb', hrd, hr⟩ := (hs.ext x2).at hx rfl
   cases e
   have hr0 := hr 0 _ rfl
   have hr1 := hr 1 _ rfl
   have hr2 := hr 2 _ rfl
   rw [add_z] at hr0
   obtain ⟨av, kv, hvv⟩ := hov.val
   subst hvv
   simp (disch := first|exact dis|fail) only [go_sem, simprocAttr, g0, g4, hc2, b1]
   rw [EU_bad _ _ rfl, EC_tab (tab := [(false, none), (false, (some (0, 1))), (false, none), (false, none), (false, none), (false, none), (false, none), (false, none), (false, none), (false, none), (false, none), (false, none), (false, none), (false, none), (false, none), (false, none), (false, none), (false, none), (false, none), (false, none), (false, none), (false, none), (false, none), (false, none), (false, none), (false, none), (false, none), (false, none), (false, none), (false, none), (false, none), (false, none), (true, none), (true, none), (false, none), (true, none)]) (by kernel_rfl)]
   simp (disch := first|exact dis|fail) only [go_sem, simprocAttr, ↓EU_rg, g0, g2, g3, g4, hB, hc2, hww, hr0, hr1, hr2]
   repeat refine WPo_ob ?_
   have hlit := OW.lit itemE_len h2 [itP base x]
   rw [List.flatMap_cons, List.flatMap_nil, List.append_nil] at hlit
   unfold itemE itP at hlit
   have hm1 : ∀ j, blkOf (.slice av ((l.take i).map (itP base)).length kv) j → h.next ≤ j := fun j hj => by have := hfv j hj; omega
   have hsn : (l.take (i + 1)).map (itP base) = (l.take i).map (itP base) ++ [itP base x] := by rw [List.take_add_one, hx, List.map_append]; rfl
   refine append_gr (l := (l.take i).map (itP base)) (l' := [itP base x]) fc_ap_50_50 itemE_len (by decide) itemE_scal (hov.ext ((Ext.refl h2).push _)) hlit.sl (by rw [List.length_map, List.length_take]; simp only [List.length_cons, List.length_nil]; omega) (by rw [List.length_map, List.length_take]; simp only [List.length_cons, List.length_nil]; omega) fun v' h3 hov' gr => ?_
   rw [← hsn] at hov'
   have hnv : ∀ k, k ≤ h.next + 1 → ¬ blkOf (.slice av ((l.take i).map (itP base)).length kv) k := fun k hk q => by have := hfv _ q; omega
   have hk3 : ∀ k, k ≤ h.next + 1 → h3.get k = h2.get k := fun k hk => by rw [gr.old _ (by simp only [next_push]; omega) (hnv k hk), get_push_old _ (by omega)]
   have hB' := (hk3 (h.next + 1) (by omega)).trans hB
   have hw' := (hk3 h.next (by omega)).trans hw0
   have hc3 := (hk3 b (by omega)).trans hc2
   have hn' := gr.le
   simp only [next_push] at hn'
   have hfv' : Fresh (h.next + 1 + 1) v' := gr.fresh hfv (by simp only [next_push]; omega)
   obtain ⟨av', kv', hvv'⟩ := hov'.val
   subst hvv'
   simp (disch := first|exact dis|fail) only [go_sem, simprocAttr, ↓EU_rg, g0, g2, g3, g4, hB, hB', hc2, hr0, hr1, hr2, hs.veq, hov.veq]
   have hm2 : Mod (fun j => h.next ≤ j) h2 (h3.set (h.next + 1) (.cells [.int .i64 cur, .slice av' ((l.take (i + 1)).map (itP base)).length kv'] 0)) := ((((Mod.refl _ h2).push _).trans (gr.mod.mono fun j _ hj => hm1 j hj))).set _ _ fun _ => by omega
   refine ⟨_, by omega, i + 1, _, _, _, rfl, rfl, by omega, by simp (disch := first|exact dis|fail) only [go_sem, simprocAttr, ↓EU_rg, g0], by simp (disch := first|exact dis|fail) only [go_sem, simprocAttr, ↓EU_rg, g2], by simp (disch := first|exact dis|fail) only [go_sem, simprocAttr, ↓EU_rg, g3], by simp (disch := first|exact dis|fail) only [go_sem, simprocAttr, ↓EU_rg], ⟨Nat.le_trans x2.le hm2.le, fun j hj => (hm2.old j (Nat.lt_of_lt_of_le hj x2.le) (by omega)).trans (x2.old j hj)⟩, ⟨w, by simp (disch := first|exact dis|fail) only [go_sem, simprocAttr, ↓EU_rg, hw']⟩, by simp (disch := first|exact dis|fail) only [go_sem, simprocAttr, ↓EU_rg], hov'.mod (Mod.set (S := fun j => j = h.next + 1) (Mod.refl _ _) _ _ (fun _ => rfl)) (fun j hj q => by have := hfv' j hj; omega), hfv', by rw [next_set]; omega⟩
  ·simp only [decide_eq_false_iff_not] at b1
   have : i = l.length := by omega
   subst this
   rw [List.take_length] at hov
   simp (disch := first|exact dis|fail) only [go_sem, simprocAttr, ↓EU_rg]
   exact ⟨_, _, v, rfl, trivial, by simp (disch := first|exact dis|fail) only [go_sem, simprocAttr, ↓EU_rg, g2], by simp (disch := first|exact dis|fail) only [go_sem, simprocAttr, ↓EU_rg, g3], x2, ⟨w, hw0⟩, hB, hov, hfv, hn2⟩
 ·refine ⟨0, _, _, _, rfl, rfl, by omega, by simp (disch := first|exact dis|fail) only [go_sem, simprocAttr, ↓EU_rg], by simp (disch := first|exact dis|fail) only [go_sem, simprocAttr, ↓EU_rg], by simp (disch := first|exact dis|fail) only [go_sem, simprocAttr, ↓EU_rg], by simp (disch := first|exact dis|fail) only [go_sem, simprocAttr, ↓EU_rg]; all_goals rfl, (((Ext.refl h).push _).push _).set _ _ (by omega), ⟨.slice none 0 1, by simp (disch := first|exact dis|fail) only [go_sem, simprocAttr, ↓EU_rg]⟩, by simp (disch := first|exact dis|fail) only [go_sem, simprocAttr, ↓EU_rg], OW.nil, Fresh.nil _ _ _, by simp only [next_push, next_set]; omega⟩
 ·omega
 ·rintro ⟨q, _⟩ ⟨tm, h2, v, rfl, rfl, g2, g3, x2, ⟨w, hw0⟩, hB, hov, hfv, hn2⟩
  obtain ⟨av, kv, rfl⟩ := hov.val
  simp (disch := first|exact dis|fail) only [go_sem, simprocAttr, ↓EU_rg, g2, g3, hw0, hB]
  exact ⟨_, rfl, hov.mod (Mod.set (S := fun j => j = h.next) (Mod.refl _ _) _ _ (fun _ => rfl)) (fun j hj q => by have := hfv j hj; omega), hfv.mono (by omega), x2.set _ _ (by omega)⟩
noncomputable def gStep (l : List Pnt) (b : Int) (p : Pnt) : Int := if (l.all fun q => decide (p.v ≤ q.v)) = true ∧ b < p.v then p.v else b
theorem gStep_le {l : List Pnt} (hl : l ≠ []) : ∀ (m : List Pnt), (∀ p ∈ m, p ∈ l) → ∀ b : Int, m.foldl (gStep l) b = if b < (leastP l).v ∧ ∃ p ∈ m, p.v = (leastP l).v then (leastP l).v else b
 | [], _, b => by
  rw [if_neg]
  ·rfl
  ·rintro ⟨_, p, hp, _⟩; cases hp
 | x :: m, hm, b => by
  rw [List.foldl_cons, gStep_le hl m (fun p hp => hm p (List.mem_cons_of_mem _ hp))]
  have hxl := leastP_le (hm x (List.mem_cons_self ..))
  by_cases q : x.v = (leastP l).v
  ·have ha : (l.all fun q => decide (x.v ≤ q.v)) = true := by
    rw [List.all_eq_true]
    intro y hy
    rw [q]
    exact decide_eq_true (leastP_le hy)
   by_cases q2 : b < x.v
   ·have e1 : gStep l b x = x.v := if_pos ⟨ha, q2⟩
    rw [e1, if_neg (by omega), if_pos ⟨by omega, x, List.mem_cons_self .., q⟩]
    exact q
   ·have e1 : gStep l b x = b := if_neg fun e => q2 e.2
    rw [e1, if_neg (by omega), if_neg (by omega)]
  ·have ha : ¬ (l.all fun q => decide (x.v ≤ q.v)) = true := by
    rw [List.all_eq_true]
    intro e
    have := e _ (leastP_mem hl)
    rw [decide_eq_true_eq] at this
    omega
   have e1 : gStep l b x = b := if_neg fun e => ha e.1
   rw [e1]
   have e2 : (b < (leastP l).v ∧ ∃ p ∈ m, p.v = (leastP l).v) ↔ (b < (leastP l).v ∧ ∃ p ∈ x :: m, p.v = (leastP l).v) := by
    refine and_congr Iff.rfl ⟨fun ⟨p, hp, e⟩ => ⟨p, List.mem_cons_of_mem _ hp, e⟩, fun ⟨p, hp, e⟩ => ?_⟩
    rcases List.mem_cons.1 hp with rfl | hp
    ·exact absurd e q
    ·exact ⟨p, hp, e⟩
   simp only [e2]
theorem gStep_all (base : Int) (l : List Pnt) : l.foldl (gStep l) base = growB base l := by
 unfold growB
 by_cases hl : l = []
 ·subst hl; rfl
 ·have hs : someP l = true := by
   unfold someP
   rw [decide_eq_false fun e => hl (List.length_eq_zero_iff.1 e)]; rfl
  rw [gStep_le hl l (fun p hp => hp), hs, if_pos rfl]
  by_cases q : base < (leastP l).v
  ·rw [if_pos ⟨q, _, leastP_mem hl, rfl⟩, if_pos q]
  ·rw [if_neg (fun e => q e.1), if_neg q]
theorem rqgrow_ev {tag base cur : Int} {l : List Pnt} {v : Value} {b : Nat} {h : Heap} (q : RQ h b v tag base cur l) (hl : l.length < 900000) :
  WPo (EF Tryz.prog O0 53 [ptr b 0] h) fun r => RQ r.2 b v tag (growB base l) cur l ∧ Mod (fun j => j = b) h r.2 := by
 rw [EF_body (O := O0) (by kernel_rfl) Tryz.func53 rfl (rs := []) rfl (bad := []) (by kernel_rfl) _ _ (m := 70) rfl]
 obtain ⟨a, c, hv⟩ := q.ow.val
 subst hv
 simp (disch := first|exact dis|fail) only [go_sem, simprocAttr, ↓EU_rg]
 repeat refine WPo_ob ?_
 refine (LP_rule (fun m st => ∃ (i : Nat) (tm : Fr) (h1 : Heap), st = ⟨tm, h1, []⟩ ∧ m = l.length - i ∧ i ≤ l.length ∧ Fr.get tm 0 = ptr b 0 ∧ Fr.get tm 2 = .int .i64 i ∧ RQ h1 b (.slice a l.length c) tag ((l.take i).foldl (gStep l) base) cur l ∧ Mod (fun j => j = b) h h1)
  (fun r => ∃ tm h1, r.2 = ⟨tm, h1, []⟩ ∧ r.1 = .exit 0 ∧ RQ h1 b (.slice a l.length c) tag (l.foldl (gStep l) base) cur l ∧ Mod (fun j => j = b) h h1) ?_ l.length _ _ ?_ ?_).mono ?_
 ·rintro m _ ⟨i, tm, h1, rfl, rfl, hi, g0, g2, q1, m1⟩
  have g := q1.gb
  simp (disch := first|exact dis|fail) only [go_sem, simprocAttr, ↓EU_rg, g0, g2, g]
  ((repeat refine WPo_ob ?_); (first | refine WPo_cond (fun b1 => ?_) (fun b1 => ?_) | refine WPo_gard (fun b1 => ?_) (fun b1 => ?_) | refine WPo_gardT (fun b1 => ?_) (fun b1 => ?_)) <;> (try simp only [Bool.not_eq_true', Bool.not_eq_false'] at b1))
  ·have b1' := b1
   simp only [decide_eq_true_eq] at b1'
   have hi' : i < l.length := by omega
   obtain ⟨x, hx⟩ : ∃ x, l[i]? = some x := ⟨_, List.getElem?_eq_getElem hi'⟩
   obtain ⟨b', o, c', e, hb', hrd, hr⟩ := q1.ow.sl.at hx rfl
   cases e
   have hr2 := hr 2 _ rfl
   have hf := foldl_snoc (gStep l) base hx
   generalize hB : (l.take i).foldl (gStep l) base = B at *
   simp (disch := first|exact dis|fail) only [go_sem, simprocAttr, ↓EU_rg, g0, g2, g]
   repeat refine WPo_ob ?_
   refine (LP_rule (fun m st => ∃ (k : Nat) (tm : Fr), st = ⟨tm, h1, []⟩ ∧ m = l.length - k ∧ k ≤ l.length ∧ Fr.get tm 0 = ptr b 0 ∧ Fr.get tm 2 = .int .i64 i ∧ Fr.get tm 3 = .bool ((l.take k).all fun y => decide (x.v ≤ y.v)) ∧ Fr.get tm 4 = .int .i64 k)
    (fun r => ∃ tm, r.2 = ⟨tm, h1, []⟩ ∧ r.1 = .exit 2 ∧ Fr.get tm 0 = ptr b 0 ∧ Fr.get tm 2 = .int .i64 i ∧ Fr.get tm 3 = .bool (l.all fun y => decide (x.v ≤ y.v))) ?_ l.length _ _ ?_ ?_).mono ?_
   ·rintro m _ ⟨k, tm, rfl, rfl, hk, g0, g2, g3, g4⟩
    simp (disch := first|exact dis|fail) only [go_sem, simprocAttr, ↓EU_rg, g0, g4, g]
    ((repeat refine WPo_ob ?_); (first | refine WPo_cond (fun b2 => ?_) (fun b2 => ?_) | refine WPo_gard (fun b2 => ?_) (fun b2 => ?_) | refine WPo_gardT (fun b2 => ?_) (fun b2 => ?_)) <;> (try simp only [Bool.not_eq_true', Bool.not_eq_false'] at b2))
    ·have b2' := b2
     simp only [decide_eq_true_eq] at b2'
     have hk' : k < l.length := by omega
     obtain ⟨y, hy⟩ : ∃ y, l[k]? = some y := ⟨_, List.getElem?_eq_getElem hk'⟩
     obtain ⟨b', o', c', e, hb', hrd', hr'⟩ := q1.ow.sl.at hy rfl
     cases e
     have hr2' := hr' 2 _ rfl
     have hal : (l.take (k + 1)).all (fun y => decide (x.v ≤ y.v)) = ((l.take k).all (fun y => decide (x.v ≤ y.v)) && decide (x.v ≤ y.v)) := by
      rw [List.take_add_one, hy, List.all_append]
      show (_ && (decide (x.v ≤ y.v) && true)) = _
      rw [Bool.and_true]
     generalize hbo : (l.take k).all (fun y => decide (x.v ≤ y.v)) = bo at *
     cases bo with
     | true =>
      simp (disch := first|exact dis|fail) only [go_sem, simprocAttr, ↓EU_rg, g0, g2, g3, g4, g, hr2, hr2']
      exact ⟨_, by omega, k + 1, _, rfl, rfl, by omega, by simp (disch := first|exact dis|fail) only [go_sem, simprocAttr, ↓EU_rg, g0], by simp (disch := first|exact dis|fail) only [go_sem, simprocAttr, ↓EU_rg, g2], by simp (disch := first|exact dis|fail) only [go_sem, simprocAttr, ↓EU_rg]; rw [hal]; rfl, by simp (disch := first|exact dis|fail) only [go_sem, simprocAttr, ↓EU_rg]⟩
     | false =>
      simp (disch := first|exact dis|fail) only [go_sem, simprocAttr, ↓EU_rg, g0, g2, g3, g4, g, hr2, hr2']
      exact ⟨_, by omega, k + 1, _, rfl, rfl, by omega, by simp (disch := first|exact dis|fail) only [go_sem, simprocAttr, ↓EU_rg, g0], by simp (disch := first|exact dis|fail) only [go_sem, simprocAttr, ↓EU_rg, g2], by simp (disch := first|exact dis|fail) only [go_sem, simprocAttr, ↓EU_rg]; rw [hal]; rfl, by simp (disch := first|exact dis|fail) only [go_sem, simprocAttr, ↓EU_rg]⟩
    ·simp only [decide_eq_false_iff_not] at b2
     have : k = l.length := by omega
     subst this
     rw [List.take_length] at g3
     simp (disch := first|exact dis|fail) only [go_sem, simprocAttr, ↓EU_rg]
     exact ⟨_, rfl, trivial, by simp (disch := first|exact dis|fail) only [go_sem, simprocAttr, ↓EU_rg, g0], by simp (disch := first|exact dis|fail) only [go_sem, simprocAttr, ↓EU_rg, g2], by simp (disch := first|exact dis|fail) only [go_sem, simprocAttr, ↓EU_rg, g3]⟩
   ·exact ⟨0, _, rfl, rfl, by omega, by simp (disch := first|exact dis|fail) only [go_sem, simprocAttr, ↓EU_rg, g0], by simp (disch := first|exact dis|fail) only [go_sem, simprocAttr, ↓EU_rg, g2], by simp (disch := first|exact dis|fail) only [go_sem, simprocAttr, ↓EU_rg], by simp (disch := first|exact dis|fail) only [go_sem, simprocAttr, ↓EU_rg]; all_goals rfl⟩
   ·omega
   ·rintro ⟨r, _⟩ ⟨tm, rfl, rfl, g0, g2, g3⟩
    unfold gStep at hf
    cases hal : l.all fun y => decide (x.v ≤ y.v) with
    | false =>
     rw [hal] at g3 hf
     rw [if_neg (fun e => by cases e.1)] at hf
     simp (disch := first|exact dis|fail) only [go_sem, simprocAttr, ↓EU_rg, g0, g2, g3, g, hr2]
     exact ⟨_, by omega, i + 1, _, _, rfl, rfl, by omega, by simp (disch := first|exact dis|fail) only [go_sem, simprocAttr, ↓EU_rg, g0], by simp (disch := first|exact dis|fail) only [go_sem, simprocAttr, ↓EU_rg], by unfold gStep; rw [hf]; exact q1, m1⟩
    | true =>
     rw [hal] at g3 hf
     by_cases c3 : B < x.v
     ·have d3 : decide (B < x.v) = true := decide_eq_true c3
      rw [if_pos ⟨rfl, c3⟩] at hf
      have hnb := q1.nb
      simp (disch := first|exact dis|fail) only [go_sem, simprocAttr, ↓EU_rg, g0, g2, g3, g, hr2, d3]
      exact ⟨_, by omega, i + 1, _, _, rfl, rfl, by omega, by simp (disch := first|exact dis|fail) only [go_sem, simprocAttr, ↓EU_rg, g0], by simp (disch := first|exact dis|fail) only [go_sem, simprocAttr, ↓EU_rg], by unfold gStep; rw [hf]; exact ⟨by rw [next_set]; exact q1.lt, get_set_same _ _ _, q1.ow.mod (Mod.set (S := fun j => j = b) (Mod.refl _ _) _ _ fun _ => rfl) fun j hj e => hnb (e ▸ hj)⟩, m1.set _ _ fun _ => rfl⟩
     ·have d3 : decide (B < x.v) = false := decide_eq_false c3
      rw [if_neg (fun e => c3 e.2)] at hf
      simp (disch := first|exact dis|fail) only [go_sem, simprocAttr, ↓EU_rg, g0, g2, g3, g, hr2, d3]
      exact ⟨_, by omega, i + 1, _, _, rfl, rfl, by omega, by simp (disch := first|exact dis|fail) only [go_sem, simprocAttr, ↓EU_rg, g0], by simp (disch := first|exact dis|fail) only [go_sem, simprocAttr, ↓EU_rg], by unfold gStep; rw [hf]; exact q1, m1⟩
  ·simp only [decide_eq_false_iff_not] at b1
   have : i = l.length := by omega
   subst this
   rw [List.take_length] at q1
   simp (disch := first|exact dis|fail) only [go_sem, simprocAttr, ↓EU_rg]
   exact ⟨_, _, rfl, trivial, q1, m1⟩
 ·exact ⟨0, _, _, rfl, rfl, by omega, by simp (disch := first|exact dis|fail) only [go_sem, simprocAttr, ↓EU_rg], by simp (disch := first|exact dis|fail) only [go_sem, simprocAttr, ↓EU_rg]; all_goals rfl, q, Mod.refl _ _⟩
 ·omega
 ·rintro ⟨r, _⟩ ⟨tm, h1, rfl, rfl, q1, m1⟩
  rw [gStep_all] at q1
  simp (disch := first|exact dis|fail) only [go_sem, simprocAttr, ↓EU_rg]
  exact ⟨q1, m1⟩
theorem minP_snoc : ∀ (l : List Pnt) (m x : Pnt), minP m (l ++ [x]) = if x.v < (minP m l).v then x else minP m l
 | [], m, x => rfl
 | y :: l, m, x => by
  show minP (if y.v < m.v then y else m) (l ++ [x]) = _
  rw [minP_snoc l]
  rfl
theorem spread_cons (a : Int) (x : Pnt) (l : List Pnt) : spread a (x :: l) = (x.v - a) * x.w + spread a l := by
 unfold spread
 rw [List.foldl_cons, foldl_addF (fun p : Pnt => (p.v - a) * p.w)]
 omega
theorem totW_cons (x : Pnt) (l : List Pnt) : totW (x :: l) = x.w + totW l := by
 unfold totW
 rw [List.foldl_cons, foldl_addF (fun p : Pnt => p.w)]
 omega
theorem spread_shift (a b : Int) : ∀ l : List Pnt, spread a l = spread b l + (b - a) * totW l
 | [] => by show (0 : Int) = 0 + (b - a) * 0; omega
 | x :: l => by
  rw [spread_cons, spread_cons, totW_cons, spread_shift a b l, Int.mul_add]
  have e : (x.v - a) * x.w = (x.v - b) * x.w + (b - a) * x.w := by rw [← Int.add_mul]; congr 1; omega
  omega
theorem due_iff (a b T : Int) (l : List Pnt) (x : Pnt) (hT : T = totW l) : spread a l < (x.v - a) * T ↔ spread b l < (x.v - b) * T := by
 have e : (x.v - a) * T = (x.v - b) * T + (b - a) * T := by rw [← Int.add_mul]; congr 1; omega
 rw [spread_shift a b l, e, ← hT]
 omega
theorem totW_nonneg {l : List Pnt} (h : ∀ p ∈ l, 1 ≤ p.w ∧ p.w ≤ 20) : 0 ≤ totW l ∧ totW l ≤ 20 * l.length := by
 induction l with
 | nil => exact ⟨Int.le_refl _, Int.le_refl _⟩
 | cons x l ih =>
  have := ih fun p hp => h p (List.mem_cons_of_mem _ hp)
  have := h x (List.mem_cons_self ..)
  rw [totW_cons, List.length_cons]
  omega
theorem spread_nonneg {a : Int} {l : List Pnt} (hw : ∀ p ∈ l, 1 ≤ p.w ∧ p.w ≤ 20) (ha : ∀ p ∈ l, a ≤ p.v) : 0 ≤ spread a l := by
 induction l with
 | nil => exact Int.le_refl _
 | cons x l ih =>
  have h1 := ih (fun p hp => hw p (List.mem_cons_of_mem _ hp)) fun p hp => ha p (List.mem_cons_of_mem _ hp)
  have h2 := hw x (List.mem_cons_self ..)
  have h3 := ha x (List.mem_cons_self ..)
  rw [spread_cons]
  have := Int.mul_nonneg (show 0 ≤ x.v - a by omega) (show 0 ≤ x.w by omega)
  omega
theorem due_keep (S T lv : Int) : ∀ (l : List Pnt) (o : Option Pnt), o.isSome = true → (l.foldl (dueStep S T lv) o).isSome = true
 | [], o, h => h
 | x :: l, o, h => by
  rw [List.foldl_cons]
  refine due_keep S T lv l _ ?_
  unfold dueStep
  split
  ·exact h
  ·cases o with
   | none => rfl
   | some q => simp only; split <;> rfl
theorem due_hit (S T lv : Int) : ∀ (l : List Pnt) (o : Option Pnt), (∃ x ∈ l, ¬ S < (x.v - lv) * T) → (l.foldl (dueStep S T lv) o).isSome = true
 | [], o, ⟨x, hx, _⟩ => by cases hx
 | y :: l, o, ⟨x, hx, h⟩ => by
  rw [List.foldl_cons]
  rcases List.mem_cons.1 hx with rfl | hx
  ·refine due_keep S T lv l _ ?_
   unfold dueStep
   rw [if_neg h]
   cases o with
   | none => rfl
   | some q => simp only; split <;> rfl
  ·exact due_hit S T lv l _ ⟨x, hx, h⟩
theorem dueBest_some {l : List Pnt} (hl : l ≠ []) (hw : ∀ p ∈ l, 1 ≤ p.w ∧ p.w ≤ 20) : (dueBest l).isSome = true := by
 unfold dueBest
 refine due_hit _ _ _ _ _ ⟨_, leastP_mem hl, ?_⟩
 have := spread_nonneg (a := (leastP l).v) hw fun p hp => leastP_le hp
 rw [show (leastP l).v - (leastP l).v = 0 by omega, Int.zero_mul]
 omega
noncomputable def atO (l : List Pnt) (k : Int) (o : Option Pnt) : Prop := match o with
 | none => k = -1
 | some p => ∃ j : Nat, k = j ∧ l[j]? = some p
theorem spread_le {a M : Int} {l : List Pnt} (hw : ∀ p ∈ l, 1 ≤ p.w ∧ p.w ≤ 20) (hv : ∀ p ∈ l, p.v ≤ M) : spread a l ≤ (M - a) * totW l := by
 induction l with
 | nil => show (0 : Int) ≤ (M - a) * 0; omega
 | cons x l ih =>
  have h1 := ih (fun p hp => hw p (List.mem_cons_of_mem _ hp)) fun p hp => hv p (List.mem_cons_of_mem _ hp)
  have h2 := hw x (List.mem_cons_self ..)
  have h3 := hv x (List.mem_cons_self ..)
  have h4 : (x.v - a) * x.w ≤ (M - a) * x.w := Int.mul_le_mul_of_nonneg_right (by omega) (by omega)
  rw [spread_cons, totW_cons, Int.mul_add]
  omega
theorem spread_le1 {a M : Int} {l : List Pnt} (hw : ∀ p ∈ l, 1 ≤ p.w ∧ p.w ≤ 20) (hv : ∀ p ∈ l, p.v ≤ M) (ha : a ≤ M) {x : Pnt} (hx : x ∈ l) (hxa : x.v = a) : spread a l + (M - a) ≤ (M - a) * totW l := by
 induction l with
 | nil => cases hx
 | cons y l ih =>
  have h2 := hw y (List.mem_cons_self ..)
  have h3 := hv y (List.mem_cons_self ..)
  rw [spread_cons, totW_cons, Int.mul_add]
  rcases List.mem_cons.1 hx with rfl | hx
  ·have h1 := spread_le (a := a) (fun p hp => hw p (List.mem_cons_of_mem _ hp)) fun p hp => hv p (List.mem_cons_of_mem _ hp)
   have h4 : (M - a) * 1 ≤ (M - a) * x.w := Int.mul_le_mul_of_nonneg_left (by omega) (by omega)
   rw [hxa, show a - a = 0 by omega, Int.zero_mul]
   omega
  ·have h1 := ih (fun p hp => hw p (List.mem_cons_of_mem _ hp)) (fun p hp => hv p (List.mem_cons_of_mem _ hp)) hx
   have h4 : (y.v - a) * y.w ≤ (M - a) * y.w := Int.mul_le_mul_of_nonneg_right (by omega) (by omega)
   omega
theorem dueBest_spec {l : List Pnt} {p : Pnt} (h : dueBest l = some p) : p ∈ l ∧ ¬ spread (leastP l).v l < (p.v - (leastP l).v) * totW l := by
 unfold dueBest at h
 have key : ∀ (S T lv : Int) (m : List Pnt) (o : Option Pnt), (∀ p, o = some p → p ∈ l ∧ ¬ S < (p.v - lv) * T) → (∀ p ∈ m, p ∈ l) → ∀ p, m.foldl (dueStep S T lv) o = some p → p ∈ l ∧ ¬ S < (p.v - lv) * T := by
  intro S T lv m
  induction m with
  | nil => intro o ho _ p e; exact ho p e
  | cons x m ih =>
   intro o ho hm p e
   rw [List.foldl_cons] at e
   refine ih _ ?_ (fun q hq => hm q (List.mem_cons_of_mem _ hq)) p e
   intro q hq
   by_cases c : S < (x.v - lv) * T
   ·rw [dueStep_keep c] at hq; exact ho q hq
   ·cases o with
    | none => rw [dueStep_none c] at hq; cases hq; exact ⟨hm _ (List.mem_cons_self ..), c⟩
    | some r =>
     rw [dueStep_some c] at hq
     split at hq
     ·cases hq; exact ⟨hm _ (List.mem_cons_self ..), c⟩
     ·cases hq; exact ho _ rfl
 exact key _ _ _ l none (fun p e => (by cases e)) (fun p hp => hp) p h
theorem pick_bound {base cur tag : Int} {l : List Pnt} (h : LG 1125899906842624 base cur l) (ht : tgood tag = true) {p : Pnt} (hp : p ∈ l) (e : p.id = curR tag cur l) : p.v + 232792560 ≤ base + 1125899906842624 := by
 have hl : l ≠ [] := fun e => by rw [e] at hp; cases hp
 have hm := leastP_mem hl
 have hlb := h.least hl
 have hs : someP l = true := by
  unfold someP
  rw [decide_eq_false fun e => hl (List.length_eq_zero_iff.1 e)]; rfl
 have hw : ∀ p ∈ l, 1 ≤ p.w ∧ p.w ≤ 20 := fun p hp => (h.pt p hp).2.1
 rcases tgood_c ht with rfl | rfl | rfl
 ·unfold curR at e
  rw [pickI_0, hs] at e
  have := od_inj h.od hp hm e
  rw [this]; omega
 ·by_cases q : (nowI cur l).isSome = true ∧ (nowP cur l).v - 465585120 ≤ (leastP l).v
  ·obtain ⟨i, hi, hx, hid⟩ := now_some q.1
   unfold curR pickI at e
   rw [if_pos ⟨rfl, q⟩] at e
   have := od_inj h.od hp (List.mem_of_getElem? hx) e
   rw [this]; omega
  ·unfold curR at e
   rw [pickI_1 _ _ q, hs] at e
   have := od_inj h.od hp hm e
   rw [this]; omega
 ·unfold curR at e
  rw [pickI_2] at e
  cases hb : dueBest l with
  | none =>
   have := dueBest_some hl hw
   rw [hb] at this; cases this
  | some b =>
   rw [hb] at e
   obtain ⟨hbm, hbs⟩ := dueBest_spec hb
   have := od_inj h.od hp hbm e
   subst this
   have hT := totW_nonneg hw
   have hlen := h.len
   have hS := spread_le1 (a := (leastP l).v) (M := base + 1125899906842624) hw (fun p hp => by have := h.pt p hp; omega) (by omega) hm rfl
   have hge : (base + 1125899906842624 - p.v) * totW l ≥ 1125899906842624 := by
    have e1 : (base + 1125899906842624 - (leastP l).v) * totW l = (base + 1125899906842624 - p.v) * totW l + (p.v - (leastP l).v) * totW l := by rw [← Int.add_mul]; congr 1; omega
    omega
   by_cases c : base + 1125899906842624 - p.v ≤ 232792560
   ·have h5 : (base + 1125899906842624 - p.v) * totW l ≤ 232792560 * totW l := Int.mul_le_mul_of_nonneg_right c hT.1
    omega
   ·omega
theorem run_LG {base cur tag : Int} {l : List Pnt} (h : LG 1125899906842624 base cur l) (ht : tgood tag = true) : LG 1125899906842624 (chB base (curR tag cur l) l) (curR tag cur l) (chL (curR tag cur l) l) ∧ base ≤ chB base (curR tag cur l) l ∧ chB base (curR tag cur l) l ≤ base + 1125899906842624 := by
 have hc := curR_mem h ht
 have h0 : LG0 1125899906842624 base (curR tag cur l) l := ⟨h.len, hc, h.pt, h.od⟩
 unfold chB chL
 cases hn : nowI (curR tag cur l) l with
 | none => exact ⟨⟨h0, h.so⟩, Int.le_refl _, (show base ≤ base + 1125899906842624 by omega)⟩
 | some i =>
  obtain ⟨x, hx, hid, hm, hxd⟩ := nowI_get hn
  simp only [hxd]
  have hb := pick_bound h ht hm hid
  have hp := h.pt x hm
  have hst := wstep_le x.w
  have hset := h0.set (y := chP x) hx (chP_id x) (by rw [chP_w]; exact hp.2.1) (by rw [chP_v]; omega)
  exact ⟨hset.grow (by decide), growB_ge _ _, growB_le (by omega) fun p hp => by have := hset.pt p hp; omega⟩
end Go.Proofs.YtddgcakiceodgaaGreat.EV
