/- Contracts: due queues: New, item, Put, Drop, Set, Get, Least, Len. No condition. -/
import Derived.Test.YtbbdhpjkibbnkaaOq9
import Derived.Test.YtbbdhpjkibbnkaaOqI
import Derived.Test.YtbbdhpjkibbnkaaRw1
namespace Go.Proofs.Ytbbdhpjkibbnkaa.EV
open Go Go.Proofs
set_option linter.unusedVariables false
set_option linter.unusedSimpArgs false
set_option maxRecDepth 100000
set_option pp.deepTerms false
set_option pp.deepTerms.threshold 20
section
variable {P : Program} {h : Heap} {r : Nat} {es : List MapEntry} {clk : Nat} {f : Int → Option Value}
theorem look_one (hg : h.get r = .map es clk) (m : MR es clk f) {k : Int} {v z : Value} (hk : f k = some v) : LOOK h z (.map (some r)) (.int .i64 k) false = some (v, h) := by
  rcases m.find k with ⟨h1, _, _⟩ | ⟨j, e, h1, h2, h3, h4⟩
  · rw [h1] at hk; cases hk
  · rw [h1] at hk
    cases hk
    unfold LOOK
    show ob (some r) (fun r => ob (some (IntKind.i64, k)) fun k => ob (mapB (h.get r)) _) = _
    rw [ob_some, ob_some, hg]
    show ob (findE .i64 k es 0) _ = _
    rw [h4]; rfl
end
/-- whole: with its day -/
noncomputable def ful (du : Int → Int) (x : QI) : RI := ⟨x.key, du x.id, x.id⟩
noncomputable def updD (du : Int → Int) (id d : Int) : Int → Int := fun i => if i = id then d else du i
structure DQ (h : Heap) (B b dm : Nat) (lv : Value) (mb : Nat) (most st : Int) (L : List QI) (du : Int → Int) : Prop where
  Bl : B < h.next
  dl : dm < h.next
  cB : h.get B = .cells [ptr b 0, .map (some dm)] 0
  qr : QR h b lv mb most st L
  mp : ∃ es clk f, h.get dm = .map es clk ∧ MR es clk f ∧ ∀ x ∈ L, f x.id = some (.int .i64 (du x.id))
  nB : ¬ QS b lv mb B
  nm : ¬ QS b lv mb dm
  ne : B ≠ dm
noncomputable def DZ (B b dm : Nat) (lv : Value) (mb : Nat) (i : Nat) : Prop := i = B ∨ i = dm ∨ QS b lv mb i
section
variable {h h' : Heap} {B b dm : Nat} {lv : Value} {mb : Nat} {most st : Int} {L : List QI} {du : Int → Int}
theorem DQ.ext (q : DQ h B b dm lv mb most st L du) (x : Ext h h') : DQ h' B b dm lv mb most st L du := by
  obtain ⟨es, clk, f, h1, h2, h3⟩ := q.mp
  exact ⟨Nat.lt_of_lt_of_le q.Bl x.le, Nat.lt_of_lt_of_le q.dl x.le, by rw [x.old _ q.Bl]; exact q.cB, q.qr.ext x, ⟨es, clk, f, by rw [x.old _ q.dl]; exact h1, h2, h3⟩, q.nB, q.nm, q.ne⟩
theorem DQ.modO (q : DQ h B b dm lv mb most st L du) {S : Nat → Prop} (x : Mod S h h') (hs : ∀ i, DZ B b dm lv mb i → ¬ S i) : DQ h' B b dm lv mb most st L du := by
  obtain ⟨es, clk, f, h1, h2, h3⟩ := q.mp
  exact ⟨Nat.lt_of_lt_of_le q.Bl x.le, Nat.lt_of_lt_of_le q.dl x.le, by rw [x.old _ q.Bl (hs _ (.inl rfl))]; exact q.cB, q.qr.modO x fun i hi => hs i (.inr (.inr hi)), ⟨es, clk, f, by rw [x.old _ q.dl (hs _ (.inr (.inl rfl)))]; exact h1, h2, h3⟩, q.nB, q.nm, q.ne⟩
theorem DQ.blk (q : DQ h B b dm lv mb most st L du) {i : Nat} (hi : DZ B b dm lv mb i) : i < h.next := by
  rcases hi with e | e | e
  · rw [e]; exact q.Bl
  · rw [e]; exact q.dl
  · exact q.qr.blk e
end
theorem dnew_ev (m : Int) (h : Heap) : WPo (EF Try.prog O0 8 [.int .i64 m] h) fun r => ∃ B b dm mb, r.1 = ptr B 0 ∧ DQ r.2 B b dm (.slice none 0 1) mb (clampM m) 0 [] (fun _ => 0) ∧ Ext h r.2 ∧ ∀ i, DZ B b dm (.slice none 0 1) mb i → h.next ≤ i := by
  rw [EF_body (O := O0) (by kernel_rfl) Try.func8 rfl (rs := [.tmp 2]) rfl (bad := []) (by kernel_rfl) _ _ (m := 8) rfl]
  simp (maxSteps := 1000000) (disch := first | decide | omega | (simp only [go_sem]; first | done | omega)) only [go_sem, Int.reduceToNat, Nat.reduceMul, Nat.reduceAdd, Nat.reduceSub, ↓EU_region, ↓EU_draw]
  repeat refine WPo_ob ?_
  refine (new_ev m h).mono ?_
  rintro ⟨v, h1⟩ ⟨b, mb, rfl, q1, x1, nb, nmb⟩
  simp only at q1 x1
  have hb := q1.bl
  have hm := q1.ml
  have hx1 := x1.le
  simp (maxSteps := 1000000) (disch := first | decide | omega | (simp only [go_sem]; first | done | omega)) only [go_sem, Int.reduceToNat, Nat.reduceMul, Nat.reduceAdd, Nat.reduceSub, ↓EU_region, ↓EU_draw]
  refine ⟨h1.next + 1, b, h1.next, mb, rfl, ⟨by rw [next_push, next_push]; omega, by rw [next_push, next_push]; omega, by simp (maxSteps := 1000000) (disch := first | decide | omega | (simp only [go_sem]; first | done | omega)) only [go_sem, Int.reduceToNat, Nat.reduceMul, Nat.reduceAdd, Nat.reduceSub, ↓EU_region, ↓EU_draw], (q1.ext ((Ext.refl h1).push _)).ext ((Ext.refl _).push _), ⟨[], 0, fun _ => none, ?_, MR.nil, fun x hx => by cases hx⟩, ?_, ?_, by omega⟩, (x1.push _).push _, ?_⟩
  · simp (maxSteps := 1000000) (disch := first | decide | omega | (simp only [go_sem]; first | done | omega)) only [go_sem, Int.reduceToNat, Nat.reduceMul, Nat.reduceAdd, Nat.reduceSub, ↓EU_region, ↓EU_draw]
  · rintro (e | e | e)
    · omega
    · omega
    · exact e
  · rintro (e | e | e)
    · omega
    · omega
    · exact e
  · rintro i (e | e | e | e | e)
    · omega
    · omega
    · omega
    · omega
    · exact e.elim
theorem item_ev {h : Heap} {B b dm : Nat} {es : List MapEntry} {clk : Nat} {f : Int → Option Value} (nB : B < h.next) (nd : dm < h.next) (cB : h.get B = .cells [ptr b 0, .map (some dm)] 0) (hm : h.get dm = .map es clk) (mr : MR es clk f) (x : QI) {d : Int} (hf : f x.id = some (.int .i64 d)) :
    Pu (EF Try.prog O0 27 [ptr B 0, .agg ⟨qE x⟩] h) h (.agg ⟨[.int .i64 x.key, .int .i64 d, .int .i64 x.id]⟩) := by
  unfold Pu qE
  rw [EF_body (O := O0) (by kernel_rfl) Try.func27 rfl (rs := [.cell 4 29]) rfl (bad := []) (by kernel_rfl) _ _ (m := 17) rfl]
  have x1 : Ext h ((h.push (.cells [.int .i64 x.key, .int .i64 x.id] 0)).push (.cells [.int .i64 0, .int .i64 0, .int .i64 0] 0)) := by repeat (first | exact Ext.refl _ | assumption | refine Ext.push ?_ _ | refine Ext.set ?_ _ _ (by first | omega | (simp only [next_push, next_set]; omega)))
  have hm' := (x1.old _ nd).trans hm
  have lk := look_one (z := .int .i64 0) hm' mr hf
  simp (maxSteps := 1000000) (disch := first | decide | omega | (simp only [go_sem]; first | done | omega)) only [go_sem, Int.reduceToNat, Nat.reduceMul, Nat.reduceAdd, Nat.reduceSub, ↓EU_region, ↓EU_draw, cB, lk]
  exact ⟨trivial, x1.set _ _ (by omega)⟩
theorem dlen_ev {h : Heap} {B b dm : Nat} {lv : Value} {mb : Nat} {most st : Int} {L : List QI} {du : Int → Int} (q : DQ h B b dm lv mb most st L du) : EF Try.prog O0 14 [ptr B 0] h = some (.int .i64 (L.length : Int), h) := by
  have : WPo (EF Try.prog O0 14 [ptr B 0] h) fun r => r = (.int .i64 (L.length : Int), h) := by
    rw [EF_body (O := O0) (by kernel_rfl) Try.func14 rfl (rs := [.tmp 2]) rfl (bad := []) (by kernel_rfl) _ _ (m := 8) rfl]
    have cB := q.cB
    have ql := qlen_ev q.qr
    simp (maxSteps := 1000000) (disch := first | decide | omega | (simp only [go_sem]; first | done | omega)) only [go_sem, Int.reduceToNat, Nat.reduceMul, Nat.reduceAdd, Nat.reduceSub, ↓EU_region, ↓EU_draw, cB, ql]
  obtain ⟨r, e, rfl⟩ := this
  exact e
set_option maxHeartbeats 1000000 in
theorem dput_ev {h : Heap} {B b dm : Nat} {lv : Value} {mb : Nat} {most st : Int} {L : List QI} {du : Int → Int} (q : DQ h B b dm lv mb most st L du) (key due id : Int) (hl : L.length < 800000) :
    WPo (EF Try.prog O0 9 [ptr B 0, .int .i64 key, .int .i64 due, .int .i64 id] h) fun r =>
      (r.1 = .int .i64 4 ∧ r.2 = h ∧ ∃ (n : Nat) (x : QI), L[n]? = some x ∧ x.id = id) ∨ ((∀ (n : Nat) (x : QI), L[n]? = some x → x.id ≠ id) ∧ ((r.1 = .int .i64 3 ∧ r.2 = h ∧ (L.length : Int) = most) ∨
      (r.1 = .int .i64 0 ∧ (L.length : Int) ≠ most ∧ ∃ lv' L' st', DQ r.2 B b dm lv' mb most st' L' (updD du id due) ∧ Mod (DZ B b dm lv mb) h r.2 ∧ (∀ i, DZ B b dm lv' mb i → DZ B b dm lv mb i ∨ h.next ≤ i) ∧ L'.Perm (⟨key, id⟩ :: L) ∧ (HP L → HP L')))) := by
  rw [EF_body (O := O0) (by kernel_rfl) Try.func9 rfl (rs := [.tmp 8]) rfl (bad := []) (by kernel_rfl) _ _ (m := 26) rfl]
  have cB := q.cB
  have nBl := q.Bl
  have ndl := q.dl
  simp (maxSteps := 1000000) (disch := first | decide | omega | (simp only [go_sem]; first | done | omega)) only [go_sem, Int.reduceToNat, Nat.reduceMul, Nat.reduceAdd, Nat.reduceSub, ↓EU_region, ↓EU_draw, cB]
  repeat refine WPo_ob ?_
  refine (qput_ev q.qr key id hl).mono ?_
  rintro ⟨v, h1⟩ (⟨rfl, e, n, x, hx, hxid⟩ | ⟨hno, ⟨rfl, e, hfull⟩ | ⟨rfl, hnf, lv', L', st', c, q', m', w', pp, hp', _, _⟩⟩)
  · simp only at e
    subst e
    have d : decide ((4 : Int) = 0) = false := by decide
    simp (maxSteps := 1000000) (disch := first | decide | omega | (simp only [go_sem]; first | done | omega)) only [go_sem, Int.reduceToNat, Nat.reduceMul, Nat.reduceAdd, Nat.reduceSub, ↓EU_region, ↓EU_draw, d]
    exact .inl ⟨trivial, trivial, n, x, hx, hxid⟩
  · simp only at e
    subst e
    have d : decide ((3 : Int) = 0) = false := by decide
    simp (maxSteps := 1000000) (disch := first | decide | omega | (simp only [go_sem]; first | done | omega)) only [go_sem, Int.reduceToNat, Nat.reduceMul, Nat.reduceAdd, Nat.reduceSub, ↓EU_region, ↓EU_draw, d]
    exact .inr ⟨hno, .inl ⟨trivial, trivial, hfull⟩⟩
  · simp only at q' m'
    obtain ⟨es, clk, f, hm, mr, hf⟩ := q.mp
    have cB1 := (m'.old _ nBl q.nB).trans cB
    have hm1 := (m'.old _ ndl q.nm).trans hm
    obtain ⟨es2, clk2, mu, mr2⟩ := mupd_ok hm1 mr id (.int .i64 due)
    have hle := m'.le
    have d : decide ((0 : Int) = 0) = true := by decide
    have nd' : ∀ i, QS b lv' mb i → QS b lv mb i ∨ h.next ≤ i := fun i e => by
      rcases e with e | e | e
      · exact .inl (.inl e)
      · exact .inl (.inr (.inl e))
      · rcases w' i e with k | k
        · exact .inl (.inr (.inr k))
        · exact .inr k
    have nB' : ¬ QS b lv' mb B := fun e => by
      rcases nd' _ e with k | k
      · exact q.nB k
      · omega
    have nm' : ¬ QS b lv' mb dm := fun e => by
      rcases nd' _ e with k | k
      · exact q.nm k
      · omega
    have mS : Mod (fun i => i = dm) h1 (h1.set dm (.map es2 clk2)) := (Mod.refl _ _).set _ _ (fun _ => rfl)
    simp (maxSteps := 1000000) (disch := first | decide | omega | (simp only [go_sem]; first | done | omega)) only [go_sem, Int.reduceToNat, Nat.reduceMul, Nat.reduceAdd, Nat.reduceSub, ↓EU_region, ↓EU_draw, d, cB1, mu]
    refine .inr ⟨hno, .inr ⟨trivial, hnf, lv', L', st', ⟨by rw [next_set]; omega, by rw [next_set]; omega, by rw [get_set_ne _ q.ne]; exact cB1, q'.modO mS (fun i e1 e2 => by subst e2; exact nm' e1), ⟨es2, clk2, _, get_set_same _ _ _, mr2, fun x hx => ?_⟩, nB', nm', q.ne⟩, (m'.mono fun i _ e => .inr (.inr e)).trans (mS.mono fun i _ e => .inr (.inl e)), fun i e => ?_, pp, hp'⟩⟩
    · unfold upd updD
      by_cases hxi : x.id = id
      · rw [if_pos hxi, if_pos hxi]
      · rw [if_neg hxi, if_neg hxi]
        rcases List.mem_cons.1 (pp.mem_iff.1 hx) with e | e
        · rw [e] at hxi; exact absurd rfl hxi
        · exact hf x e
    · rcases e with e | e | e
      · exact .inl (.inl e)
      · exact .inl (.inr (.inl e))
      · rcases nd' i e with k | k
        · exact .inl (.inr (.inr k))
        · exact .inr k
set_option maxHeartbeats 1000000 in
theorem dset_ev {h : Heap} {B b dm : Nat} {lv : Value} {mb : Nat} {most st : Int} {L : List QI} {du : Int → Int} (q : DQ h B b dm lv mb most st L du) (id key due : Int) (hl : L.length < 800000) :
    WPo (EF Try.prog O0 12 [ptr B 0, .int .i64 id, .int .i64 key, .int .i64 due] h) fun r =>
      (r.1 = .bool false ∧ r.2 = h ∧ ∀ (n : Nat) (x : QI), L[n]? = some x → x.id ≠ id) ∨
      (∃ (n : Nat) (x : QI), L[n]? = some x ∧ x.id = id ∧ r.1 = .bool true ∧ ∃ L' st', DQ r.2 B b dm lv mb most st' L' (updD du id due) ∧ Mod (DZ B b dm lv mb) h r.2 ∧ L'.Perm (L.set n ⟨key, id⟩) ∧ (HP L → HP L')) := by
  rw [EF_body (O := O0) (by kernel_rfl) Try.func12 rfl (rs := [.tmp 8]) rfl (bad := []) (by kernel_rfl) _ _ (m := 25) rfl]
  have cB := q.cB
  have nBl := q.Bl
  have ndl := q.dl
  simp (maxSteps := 1000000) (disch := first | decide | omega | (simp only [go_sem]; first | done | omega)) only [go_sem, Int.reduceToNat, Nat.reduceMul, Nat.reduceAdd, Nat.reduceSub, ↓EU_region, ↓EU_draw, cB]
  repeat refine WPo_ob ?_
  refine (qset_ev q.qr id key hl).mono ?_
  rintro ⟨v, h1⟩ (⟨rfl, e, hno⟩ | ⟨n, x, hx, hxid, rfl, L', st', c, q', m', pp, hp', _, _⟩)
  · simp only at e
    subst e
    simp (maxSteps := 1000000) (disch := first | decide | omega | (simp only [go_sem]; first | done | omega)) only [go_sem, Int.reduceToNat, Nat.reduceMul, Nat.reduceAdd, Nat.reduceSub, ↓EU_region, ↓EU_draw]
    exact .inl ⟨trivial, trivial, hno⟩
  · simp only at q' m'
    obtain ⟨es, clk, f, hm, mr, hf⟩ := q.mp
    have cB1 := (m'.old _ nBl q.nB).trans cB
    have hm1 := (m'.old _ ndl q.nm).trans hm
    obtain ⟨es2, clk2, mu, mr2⟩ := mupd_ok hm1 mr id (.int .i64 due)
    have hle := m'.le
    have mS : Mod (fun i => i = dm) h1 (h1.set dm (.map es2 clk2)) := (Mod.refl _ _).set _ _ (fun _ => rfl)
    simp (maxSteps := 1000000) (disch := first | decide | omega | (simp only [go_sem]; first | done | omega)) only [go_sem, Int.reduceToNat, Nat.reduceMul, Nat.reduceAdd, Nat.reduceSub, ↓EU_region, ↓EU_draw, cB1, mu]
    refine .inr ⟨n, x, hx, hxid, trivial, L', st', ⟨by rw [next_set]; omega, by rw [next_set]; omega, by rw [get_set_ne _ q.ne]; exact cB1, q'.modO mS (fun i e1 e2 => by subst e2; exact q.nm e1), ⟨es2, clk2, _, get_set_same _ _ _, mr2, fun y hy => ?_⟩, q.nB, q.nm, q.ne⟩, (m'.mono fun i _ e => .inr (.inr e)).trans (mS.mono fun i _ e => .inr (.inl e)), pp, hp'⟩
    unfold upd updD
    by_cases hyi : y.id = id
    · rw [if_pos hyi, if_pos hyi]
    · rw [if_neg hyi, if_neg hyi]
      rcases List.mem_or_eq_of_mem_set (pp.mem_iff.1 hy) with e | e
      · exact hf y e
      · rw [e] at hyi; exact absurd rfl hyi
set_option maxHeartbeats 1000000 in
theorem ddrop_ev {h : Heap} {B b dm : Nat} {lv : Value} {mb : Nat} {most st : Int} {L : List QI} {du : Int → Int} (q : DQ h B b dm lv mb most st L du) (id : Int) (hl : L.length < 800000) :
    WPo (EF Try.prog O0 13 [ptr B 0, .int .i64 id] h) fun r =>
      (r.1 = .tuple ⟨[.agg ⟨[.int .i64 0, .int .i64 0, .int .i64 0]⟩, .bool false]⟩ ∧ Ext h r.2 ∧ ∀ (n : Nat) (x : QI), L[n]? = some x → x.id ≠ id) ∨
      (∃ (n : Nat) (x : QI), L[n]? = some x ∧ x.id = id ∧ r.1 = .tuple ⟨[.agg ⟨rE (ful du x)⟩, .bool true]⟩ ∧ ∃ lv' L' st', DQ r.2 B b dm lv' mb most st' L' du ∧ Mod (DZ B b dm lv mb) h r.2 ∧ (∀ i, DZ B b dm lv' mb i → DZ B b dm lv mb i) ∧ L.Perm (x :: L') ∧ (HP L → HP L')) := by
  rw [EF_body (O := O0) (by kernel_rfl) Try.func13 rfl (rs := [.cell 4 29, .tmp 5]) rfl (bad := []) (by kernel_rfl) _ _ (m := 30) rfl]
  have x1 : Ext h (h.push (.cells [.int .i64 0, .int .i64 0, .int .i64 0] 0)) := (Ext.refl h).push _
  have q1 := q.ext x1
  have n1 : (h.push (.cells [.int .i64 0, .int .i64 0, .int .i64 0] 0)).next = h.next + 1 := next_push _ _
  have g1 : (h.push (.cells [.int .i64 0, .int .i64 0, .int .i64 0] 0)).get h.next = .cells [.int .i64 0, .int .i64 0, .int .i64 0] 0 := get_push_new _ _
  have cB0 := q.cB
  have nBl := q.Bl
  have ndl := q.dl
  simp (maxSteps := 1000000) (disch := first | decide | omega | (simp only [go_sem]; first | done | omega)) only [go_sem, Int.reduceToNat, Nat.reduceMul, Nat.reduceAdd, Nat.reduceSub, ↓EU_region, ↓EU_draw, cB0]
  generalize h.push (.cells [.int .i64 0, .int .i64 0, .int .i64 0] 0) = h1 at *
  have cB := q1.cB
  repeat refine WPo_ob ?_
  refine (qdrop_ev q1.qr id hl).mono ?_
  rintro ⟨v, h2⟩ (⟨rfl, x2, hno⟩ | ⟨n, x, hx, hxid, rfl, lv', L', st', c, q', m', w', pp, hp', _, _⟩)
  · simp only at x2
    have g2 := (x2.old h.next (by omega)).trans g1
    have hn2 := x2.le
    simp (maxSteps := 1000000) (disch := first | decide | omega | (simp only [go_sem]; first | done | omega)) only [go_sem, Int.reduceToNat, Nat.reduceMul, Nat.reduceAdd, Nat.reduceSub, ↓EU_region, ↓EU_draw, g2]
    exact .inl ⟨trivial, ((x1.trans x2).push _).set _ _ (by omega), hno⟩
  · simp only at q' m'
    obtain ⟨es, clk, f, hm, mr, hf⟩ := q1.mp
    have nbS : ¬ QS b lv mb h.next := fun e => by have := q.qr.blk e; omega
    have cB2 := (m'.old _ (by omega) q.nB).trans cB
    have hm2 := (m'.old _ (by omega) q.nm).trans hm
    have g2 := (m'.old h.next (by omega) nbS).trans g1
    have hle := m'.le
    have hfx := hf x (List.mem_of_getElem? hx)
    unfold qE
    have x3 : Ext h2 (h2.push (.cells [.int .i64 x.key, .int .i64 x.id] 0)) := (Ext.refl h2).push _
    have n3 : (h2.push (.cells [.int .i64 x.key, .int .i64 x.id] 0)).next = h2.next + 1 := next_push _ _
    have hit := item_ev (B := B) (b := b) (h := h2.push (.cells [.int .i64 x.key, .int .i64 x.id] 0)) (by omega) (by omega) ((x3.old _ (by omega)).trans cB2) ((x3.old _ (by omega)).trans hm2) mr x hfx
    unfold qE at hit
    simp (maxSteps := 1000000) (disch := first | decide | omega | (simp only [go_sem]; first | done | omega)) only [go_sem, Int.reduceToNat, Nat.reduceMul, Nat.reduceAdd, Nat.reduceSub, ↓EU_region, ↓EU_draw]
    repeat refine WPo_ob ?_
    refine hit.bind fun h4 x4 => ?_
    have x24 := (x3.trans x4).push (.cells [.int .i64 x.key, .int .i64 (du x.id), .int .i64 x.id] 0)
    have x24o := x3.trans x4
    have cB4 := (x24o.old _ (by omega)).trans cB2
    have hm4 := (x24.old _ (by omega)).trans hm2
    have g4 := (x24o.old h.next (by omega)).trans g2
    have hl4 := x4.le
    obtain ⟨es5, dl5, mr5⟩ := del_ok (P := Try.prog) (t := 57) (by rfl) hm4 mr (hxid ▸ hfx : f id = some (.int .i64 (du x.id)))
    have cB24 := (x24.old _ (by omega)).trans cB2
    have q24 := q'.ext x24
    simp (maxSteps := 1000000) (disch := first | decide | omega | (simp only [go_sem]; first | done | omega)) only [go_sem, Int.reduceToNat, Nat.reduceMul, Nat.reduceAdd, Nat.reduceSub, ↓EU_region, ↓EU_draw, cB4, dl5, g4]
    have n24 : (h4.push (.cells [.int .i64 x.key, .int .i64 (du x.id), .int .i64 x.id] 0)).next = h4.next + 1 := next_push _ _
    generalize h4.push (.cells [.int .i64 x.key, .int .i64 (du x.id), .int .i64 x.id] 0) = h5 at *
    have mS : Mod (fun i => i = dm ∨ i = h.next) h5 ((h5.set dm (.map es5 clk)).set h.next (.cells [.int .i64 x.key, .int .i64 (du x.id), .int .i64 x.id] 0)) := ((Mod.refl _ _).set _ _ (fun _ => .inl rfl)).set _ _ (fun _ => .inr rfl)
    have wq : ∀ i, QS b lv' mb i → QS b lv mb i := fun i e => by
      rcases e with e | e | e
      · exact .inl e
      · exact .inr (.inl e)
      · exact .inr (.inr (w' i e))
    have nid : ∀ y ∈ L', y.id ≠ id := fun y hy e => by
      have nd := q.qr.nodup
      have nd2 := (pp.map (·.id)).nodup_iff.1 nd
      rw [List.map_cons, List.nodup_cons] at nd2
      exact nd2.1 (by rw [hxid, ← e]; exact List.mem_map_of_mem hy)
    refine .inr ⟨n, x, hx, hxid, rfl, lv', L', st', ⟨by rw [next_set, next_set]; omega, by rw [next_set, next_set]; omega, by rw [get_set_ne _ (by omega), get_set_ne _ q.ne]; exact cB24, q24.modO mS (fun i e1 e2 => ?_), ⟨es5, clk, _, by rw [get_set_ne _ (by omega)]; exact get_set_same _ _ _, mr5, fun y hy => ?_⟩, fun e => q.nB (wq _ e), fun e => q.nm (wq _ e), q.ne⟩, ⟨by rw [next_set, next_set]; omega, fun i hi hn => ?_⟩, fun i e => ?_, pp, hp'⟩
    · rcases e2 with e | e
      · subst e; exact q.nm (wq _ e1)
      · subst e; exact nbS (wq _ e1)
    · unfold upd
      rw [if_neg (nid y hy)]
      exact hf y (pp.mem_iff.2 (List.mem_cons_of_mem _ hy))
    · rw [mS.old i (by omega) (fun e => by
        rcases e with e | e
        · exact hn (.inr (.inl e))
        · omega), x24.old i (by omega), m'.old i (by omega) (fun e => hn (.inr (.inr e))), x1.old i hi]
    · rcases e with e | e | e
      · exact .inl e
      · exact .inr (.inl e)
      · exact .inr (.inr (wq _ e))
theorem dget_ev {h : Heap} {B b dm : Nat} {lv : Value} {mb : Nat} {most st : Int} {L : List QI} {du : Int → Int} (q : DQ h B b dm lv mb most st L du) (id : Int) :
    (∃ (n : Nat) (x : QI), L[n]? = some x ∧ x.id = id ∧ Pu (EF Try.prog O0 16 [ptr B 0, .int .i64 id] h) h (.tuple ⟨[.agg ⟨rE (ful du x)⟩, .bool true]⟩)) ∨ ((∀ (n : Nat) (x : QI), L[n]? = some x → x.id ≠ id) ∧ Pu (EF Try.prog O0 16 [ptr B 0, .int .i64 id] h) h (.tuple ⟨[.agg ⟨[.int .i64 0, .int .i64 0, .int .i64 0]⟩, .bool false]⟩)) := by
  have x1 : Ext h (h.push (.cells [.int .i64 0, .int .i64 0, .int .i64 0] 0)) := (Ext.refl h).push _
  have n1 : (h.push (.cells [.int .i64 0, .int .i64 0, .int .i64 0] 0)).next = h.next + 1 := next_push _ _
  have q1 := q.ext x1
  have cB := q.cB
  have nBl := q.Bl
  have ndl := q.dl
  obtain ⟨es, clk, f, hm, mr, hf⟩ := q1.mp
  rcases qkey_ev q1.qr id with ⟨n, x, hx, hxid, e⟩ | ⟨hno, e⟩
  · refine .inl ⟨n, x, hx, hxid, ?_⟩
    unfold Pu
    rw [EF_body (O := O0) (by kernel_rfl) Try.func16 rfl (rs := [.cell 4 29, .tmp 5]) rfl (bad := []) (by kernel_rfl) _ _ (m := 25) rfl]
    have hit := item_ev (B := B) (b := b) (h := h.push (.cells [.int .i64 0, .int .i64 0, .int .i64 0] 0)) (by omega) (by omega) q1.cB hm mr x (hf x (List.mem_of_getElem? hx))
    rw [← hxid] at e ⊢
    unfold qE at hit
    simp (maxSteps := 1000000) (disch := first | decide | omega | (simp only [go_sem]; first | done | omega)) only [go_sem, Int.reduceToNat, Nat.reduceMul, Nat.reduceAdd, Nat.reduceSub, ↓EU_region, ↓EU_draw, cB, e]
    have g1 : (h.push (.cells [.int .i64 0, .int .i64 0, .int .i64 0] 0)).get h.next = .cells [.int .i64 0, .int .i64 0, .int .i64 0] 0 := get_push_new _ _
    repeat refine WPo_ob ?_
    refine hit.bind fun h4 x4 => ?_
    have g4 := (x4.old h.next (by omega)).trans g1
    have hl4 := x4.le
    simp (maxSteps := 1000000) (disch := first | decide | omega | (simp only [go_sem]; first | done | omega)) only [go_sem, Int.reduceToNat, Nat.reduceMul, Nat.reduceAdd, Nat.reduceSub, ↓EU_region, ↓EU_draw, g4]
    exact ⟨rfl, (x1.trans x4).set _ _ (by omega)⟩
  · refine .inr ⟨hno, ?_⟩
    unfold Pu
    rw [EF_body (O := O0) (by kernel_rfl) Try.func16 rfl (rs := [.cell 4 29, .tmp 5]) rfl (bad := []) (by kernel_rfl) _ _ (m := 25) rfl]
    simp (maxSteps := 1000000) (disch := first | decide | omega | (simp only [go_sem]; first | done | omega)) only [go_sem, Int.reduceToNat, Nat.reduceMul, Nat.reduceAdd, Nat.reduceSub, ↓EU_region, ↓EU_draw, cB, e]
    exact ⟨trivial, x1⟩
theorem dleast_ev {h : Heap} {B b dm : Nat} {lv : Value} {mb : Nat} {most st : Int} {L : List QI} {du : Int → Int} (q : DQ h B b dm lv mb most st L du) :
    (L = [] ∧ Pu (EF Try.prog O0 15 [ptr B 0] h) h (.tuple ⟨[.agg ⟨[.int .i64 0, .int .i64 0, .int .i64 0]⟩, .bool false]⟩)) ∨ ∃ x t, L = x :: t ∧ Pu (EF Try.prog O0 15 [ptr B 0] h) h (.tuple ⟨[.agg ⟨rE (ful du x)⟩, .bool true]⟩) := by
  have x1 : Ext h (h.push (.cells [.int .i64 0, .int .i64 0, .int .i64 0] 0)) := (Ext.refl h).push _
  have n1 : (h.push (.cells [.int .i64 0, .int .i64 0, .int .i64 0] 0)).next = h.next + 1 := next_push _ _
  have g1 : (h.push (.cells [.int .i64 0, .int .i64 0, .int .i64 0] 0)).get h.next = .cells [.int .i64 0, .int .i64 0, .int .i64 0] 0 := get_push_new _ _
  have q1 := q.ext x1
  have cB := q.cB
  have nBl := q.Bl
  have ndl := q.dl
  have hmin := qmin_ev q1.qr
  cases L with
  | nil =>
    refine .inl ⟨rfl, ?_⟩
    unfold Pu
    rw [EF_body (O := O0) (by kernel_rfl) Try.func15 rfl (rs := [.cell 2 29, .tmp 3]) rfl (bad := []) (by kernel_rfl) _ _ (m := 20) rfl]
    simp (maxSteps := 1000000) (disch := first | decide | omega | (simp only [go_sem]; first | done | omega)) only [go_sem, Int.reduceToNat, Nat.reduceMul, Nat.reduceAdd, Nat.reduceSub, ↓EU_region, ↓EU_draw, cB]
    repeat refine WPo_ob ?_
    refine hmin.bind fun h2 x2 => ?_
    have g2 := (x2.old h.next (by omega)).trans g1
    have hl2 := x2.le
    simp (maxSteps := 1000000) (disch := first | decide | omega | (simp only [go_sem]; first | done | omega)) only [go_sem, Int.reduceToNat, Nat.reduceMul, Nat.reduceAdd, Nat.reduceSub, ↓EU_region, ↓EU_draw, g2]
    exact ⟨trivial, ((x1.trans x2).push _).set _ _ (by omega)⟩
  | cons x t =>
    refine .inr ⟨x, t, rfl, ?_⟩
    unfold Pu
    rw [EF_body (O := O0) (by kernel_rfl) Try.func15 rfl (rs := [.cell 2 29, .tmp 3]) rfl (bad := []) (by kernel_rfl) _ _ (m := 20) rfl]
    simp (maxSteps := 1000000) (disch := first | decide | omega | (simp only [go_sem]; first | done | omega)) only [go_sem, Int.reduceToNat, Nat.reduceMul, Nat.reduceAdd, Nat.reduceSub, ↓EU_region, ↓EU_draw, cB]
    repeat refine WPo_ob ?_
    refine hmin.bind fun h2 x2 => ?_
    have g2 := (x2.old h.next (by omega)).trans g1
    have hl2 := x2.le
    have q2 := q1.ext x2
    have x3 : Ext h2 (h2.push (.cells [.int .i64 x.key, .int .i64 x.id] 0)) := (Ext.refl h2).push _
    have n3 : (h2.push (.cells [.int .i64 x.key, .int .i64 x.id] 0)).next = h2.next + 1 := next_push _ _
    have q3 := q2.ext x3
    obtain ⟨es, clk, f, hm, mr, hf⟩ := q3.mp
    have hit := item_ev (B := B) (b := b) q3.Bl q3.dl q3.cB hm mr x (hf x List.mem_cons_self)
    unfold qE at hit ⊢
    simp (maxSteps := 1000000) (disch := first | decide | omega | (simp only [go_sem]; first | done | omega)) only [go_sem, Int.reduceToNat, Nat.reduceMul, Nat.reduceAdd, Nat.reduceSub, ↓EU_region, ↓EU_draw]
    repeat refine WPo_ob ?_
    refine hit.bind fun h4 x4 => ?_
    have g4 := ((x3.trans x4).old h.next (by omega)).trans g2
    have hl4 := x4.le
    simp (maxSteps := 1000000) (disch := first | decide | omega | (simp only [go_sem]; first | done | omega)) only [go_sem, Int.reduceToNat, Nat.reduceMul, Nat.reduceAdd, Nat.reduceSub, ↓EU_region, ↓EU_draw, g4]
    exact ⟨rfl, (x1.trans (x2.trans (x3.trans x4))).set _ _ (by omega)⟩
end Go.Proofs.Ytbbdhpjkibbnkaa.EV
