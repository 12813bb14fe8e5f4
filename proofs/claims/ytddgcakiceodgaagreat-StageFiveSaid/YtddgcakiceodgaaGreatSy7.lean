/-
  SY, part 7: regions that draw their order and read what may be turned beside: each such read is held against the memories at which it may stand. No condition.
-/
import Derived.Test.YtddgcakiceodgaaGreatSy6
namespace Go.Proofs.YtddgcakiceodgaaGreat.EV
set_option linter.unusedVariables false
set_option linter.unusedSimpArgs false
open Go Go.RowKit

abbrev Tab := List (Bool × Option (Nat × Nat))
noncomputable def tabAt (P : Program) (A : List Nat) (C : List (Nat × Oper)) (i : Nat) (o : Oper) : Bool × Option (Nat × Nat) :=
  (isChg P o, cnd (Nat.beq (cls P o.op) 1 && !Nat.beq (loOf P (A.getD i 0) C) (hiOf P A i C)) (some (loOf P (A.getD i 0) C, hiOf P A i C)) none)
noncomputable def tabGo (P : Program) (A : List Nat) (C : List (Nat × Oper)) : List Oper → Nat → Tab
  | [], _ => []
  | o :: l, i => tabAt P A C i o :: tabGo P A C l (Nat.succ i)
noncomputable def drawTab (P : Program) (ops : List Oper) : Option Tab := match regOK P ops with
  | none => none
  | some AC => cnd (Nat.beq AC.2.length ops.length && sameOrd AC.2 0) (some (tabGo P AC.1 AC.2 ops 0)) none
structure RdS where
  o : Oper
  tm : Fr
  v : Value
  lo : Nat
  hi : Nat
noncomputable def RD1 (P : Program) (O : Orc) (o : Oper) (tm : Fr) (v : Value) (ms : List Nat) (h : Heap) : Bool := match evO P (EVR P O) o ⟨tm, h, ms⟩ with
  | some vh => veq v vh.1
  | none => false
noncomputable def ALLH (P : Program) (O : Orc) (o : Oper) (tm : Fr) (v : Value) (ms : List Nat) : List Heap → Bool
  | [] => true
  | h :: hs => RD1 P O o tm v ms h && ALLH P O o tm v ms hs
noncomputable def RCHK (P : Program) (O : Orc) (ms : List Nat) (hs : List Heap) : List RdS → Bool
  | [] => true
  | x :: xs => ALLH P O x.o x.tm x.v ms ((hs.drop x.lo).take (x.hi + 1 - x.lo)) && RCHK P O ms hs xs
noncomputable def addR (rs : List RdS) (o : Oper) (tm : Fr) (v : Value) : Option (Nat × Nat) → List RdS
  | none => rs
  | some q => rs ++ [⟨o, tm, v, q.1, q.2⟩]
noncomputable def OPST (P : Program) (O : Orc) (n : Nat) (all : List Oper) : List Oper → Tab → St → List Heap → List RdS → Option (St × List Heap × List RdS)
  | [], _, st, hs, rs => some (st, hs, rs)
  | o :: l, [], st, hs, rs => none
  | o :: l, c :: cs, st, hs, rs => cnd (wantedL all o st.tm) (ob (evO P (EVR P O) o st) fun vh => OPST P O n all l cs ⟨putL n st.tm o.dst vh.1, vh.2, st.ms⟩ (cnd c.1 (hs ++ [vh.2]) hs) (addR rs o st.tm vh.1 c.2)) (OPST P O n all l cs ⟨putL n st.tm o.dst undef, st.h, st.ms⟩ (cnd c.1 (hs ++ [st.h]) hs) rs)
noncomputable def finK (P : Program) (O : Orc) (q : St × List Heap × List RdS) : CR := cnd (RCHK P O q.1.ms q.2.1 q.2.2) (some (.normal, q.1)) none

noncomputable def Cz : List Oper → Nat → List (Nat × Oper)
  | [], _ => []
  | o :: l, i => (i, o) :: Cz l (i + 1)
theorem sameOrd_Cz {ops : List Oper} : ∀ (C : List (Nat × Oper)) (i : Nat), sameOrd C i = true → (∀ a ∈ C, ops[a.1]? = some a.2) → C.length + i = ops.length → C = Cz (ops.drop i) i
  | [], i, _, _, hl => by simp only [List.length_nil, Nat.zero_add] at hl; rw [hl, List.drop_length]; rfl
  | a :: l, i, h, hm, hl => by
    simp only [sameOrd, Bool.and_eq_true] at h
    have e := Nat.eq_of_beq_eq_true h.1
    have h1 := hm a (List.mem_cons_self ..)
    rw [e] at h1
    have hlt := (List.getElem?_eq_some_iff.1 h1).1
    rw [List.drop_eq_getElem_cons hlt, Cz, ← sameOrd_Cz l (i + 1) h.2 (fun b hb => hm b (List.mem_cons_of_mem _ hb)) (by simp only [List.length_cons] at hl; omega)]
    rw [List.getElem?_eq_getElem hlt] at h1
    rw [Option.some.inj h1]
    obtain ⟨a1, a2⟩ := a
    simp only at e
    rw [e]
section
variable {P : Program} {O : Orc}
noncomputable def gR (P : Program) (A : List Nat) (C : List (Nat × Oper)) (x : Rd) : Option RdS := cnd (Nat.beq (loOf P (A.getD x.i 0) C) (hiOf P A x.i C)) none (some ⟨x.o, x.tm, x.v, loOf P (A.getD x.i 0) C, hiOf P A x.i C⟩)
theorem rdAt_ALLH (x : Rd) (ms : List Nat) : ∀ hs : List Heap, rdAt P (EVR P O) x ms hs = ALLH P O x.o x.tm x.v ms hs
  | [] => rfl
  | h :: hs => by
    show (rdOne P (EVR P O) x ms h && rdAt P (EVR P O) x ms hs) = (RD1 P O x.o x.tm x.v ms h && ALLH P O x.o x.tm x.v ms hs)
    rw [rdAt_ALLH x ms hs]
    rfl
theorem rds_RCHK (A : List Nat) (C : List (Nat × Oper)) (ms : List Nat) (hs : List Heap) : ∀ rs : List Rd, rdsOK P (EVR P O) C A ms hs rs = RCHK P O ms hs (rs.filterMap (gR P A C))
  | [] => rfl
  | x :: rs => by
    show ((Nat.beq (loOf P (A.getD x.i 0) C) (hiOf P A x.i C) || rdAt P (EVR P O) x ms ((hs.drop (loOf P (A.getD x.i 0) C)).take (Nat.succ (hiOf P A x.i C) - loOf P (A.getD x.i 0) C))) && rdsOK P (EVR P O) C A ms hs rs) = _
    rw [rds_RCHK A C ms hs rs, List.filterMap_cons]
    cases hb : Nat.beq (loOf P (A.getD x.i 0) C) (hiOf P A x.i C) with
    | true =>
      have : gR P A C x = none := by unfold gR; rw [hb]; rfl
      rw [this, Bool.true_or, Bool.true_and]
    | false =>
      have : gR P A C x = some ⟨x.o, x.tm, x.v, loOf P (A.getD x.i 0) C, hiOf P A x.i C⟩ := by unfold gR; rw [hb]; rfl
      rw [this, Bool.false_or, rdAt_ALLH]
      rfl
theorem trace_OPST (n : Nat) (all : List Oper) (A : List Nat) (C : List (Nat × Oper)) : ∀ (l : List Oper) (i : Nat) (st : St) (hs : List Heap) (rs : List Rd),
    (match evTrace P (EVR P O) n all (Cz l i) st hs rs with | some q => some (q.1, q.2.1, q.2.2.filterMap (gR P A C)) | none => none) = OPST P O n all l (tabGo P A C l i) st hs (rs.filterMap (gR P A C))
  | [], i, st, hs, rs => rfl
  | o :: l, i, st, hs, rs => by
    have ih := trace_OPST n all A C l (i + 1)
    show (match cnd (wantedL all o st.tm) (ob (evO P (EVR P O) o st) fun vh => evTrace P (EVR P O) n all (Cz l (i + 1)) ⟨putL n st.tm o.dst vh.1, vh.2, st.ms⟩ (cnd (isChg P o) (hs ++ [vh.2]) hs) (cnd (Nat.beq (cls P o.op) 1) (rs ++ [⟨i, o, st.tm, vh.1⟩]) rs)) (evTrace P (EVR P O) n all (Cz l (i + 1)) ⟨putL n st.tm o.dst undef, st.h, st.ms⟩ (cnd (isChg P o) (hs ++ [st.h]) hs) rs) with | some q => some (q.1, q.2.1, q.2.2.filterMap (gR P A C)) | none => none) =
      cnd (wantedL all o st.tm) (ob (evO P (EVR P O) o st) fun vh => OPST P O n all l (tabGo P A C l (i + 1)) ⟨putL n st.tm o.dst vh.1, vh.2, st.ms⟩ (cnd (tabAt P A C i o).1 (hs ++ [vh.2]) hs) (addR (rs.filterMap (gR P A C)) o st.tm vh.1 (tabAt P A C i o).2)) (OPST P O n all l (tabGo P A C l (i + 1)) ⟨putL n st.tm o.dst undef, st.h, st.ms⟩ (cnd (tabAt P A C i o).1 (hs ++ [st.h]) hs) (rs.filterMap (gR P A C)))
    cases wantedL all o st.tm with
    | false => simp only [cnd_false]; exact ih _ _ _
    | true =>
      simp only [cnd_true]
      cases evO P (EVR P O) o st with
      | none => rfl
      | some vh =>
        simp only [ob_some]
        rw [ih]
        congr 1
        unfold tabAt
        cases hc : Nat.beq (cls P o.op) 1 with
        | false => rw [Bool.false_and, cnd_false, cnd_false]; rfl
        | true =>
          rw [Bool.true_and, cnd_true, List.filterMap_append]
          cases hb : Nat.beq (loOf P (A.getD i 0) C) (hiOf P A i C) with
          | true =>
            have : gR P A C ⟨i, o, st.tm, vh.1⟩ = none := by unfold gR; rw [hb]; rfl
            simp [this, addR]
          | false =>
            have : gR P A C ⟨i, o, st.tm, vh.1⟩ = some ⟨o, st.tm, vh.1, loOf P (A.getD i 0) C, hiOf P A i C⟩ := by unfold gR; rw [hb]; rfl
            simp [this, addR]
theorem trace_ms {r : Rec} {n : Nat} {all : List Oper} : ∀ (l : List (Nat × Oper)) (st : St) (hs : List Heap) (rs : List Rd) (q : St × List Heap × List Rd), evTrace P r n all l st hs rs = some q → q.1.ms = st.ms
  | [], st, hs, rs, q, e => by cases e; rfl
  | a :: l, st, hs, rs, q, e => by
    have e' : cnd (wantedL all a.2 st.tm) (ob (evO P r a.2 st) fun vh => evTrace P r n all l ⟨putL n st.tm a.2.dst vh.1, vh.2, st.ms⟩ (cnd (isChg P a.2) (hs ++ [vh.2]) hs) (cnd (Nat.beq (cls P a.2.op) 1) (rs ++ [⟨a.1, a.2, st.tm, vh.1⟩]) rs)) (evTrace P r n all l ⟨putL n st.tm a.2.dst undef, st.h, st.ms⟩ (cnd (isChg P a.2) (hs ++ [st.h]) hs) rs) = some q := e
    cases hw : wantedL all a.2 st.tm with
    | false => rw [hw, cnd_false] at e'; have := trace_ms l _ _ _ q e'; exact this
    | true =>
      rw [hw, cnd_true] at e'
      obtain ⟨vh, _, e'⟩ := ob_inv e'
      have := trace_ms l _ _ _ q e'
      exact this
theorem EC_tab {ro : Option Nat} {n : Nat} {st : St} {id : Nat} {ops : Array Oper} {tab : Tab} (ht : drawTab P ops.toList = some tab) : EC P O ro n (.region id ops true) st = ob (OPST P O n ops.toList ops.toList tab st [st.h] []) (finK P O) := by
  rw [EC_eq]
  show ob (evRegion P (EVR P O) n ops.toList true st) (fun st' => some (Exit.normal, st')) = _
  unfold drawTab at ht
  unfold evRegion
  rw [cnd_true]
  cases hr : regOK P ops.toList with
  | none => rw [hr] at ht; cases ht
  | some AC =>
    rw [hr] at ht
    simp only at ht
    cases hb : (Nat.beq AC.2.length ops.toList.length && sameOrd AC.2 0) with
    | false => rw [hb] at ht; cases ht
    | true =>
      rw [hb, cnd_true] at ht
      simp only [Bool.and_eq_true] at hb
      have hC : ∃ A, AC = (A, canGo P A ops.toList 0 []) := by
        unfold regOK at hr
        cases ha : ancGo ops.toList 0 [] with
        | none => rw [ha] at hr; cases hr
        | some A =>
          rw [ha] at hr
          simp only at hr
          cases hp : pairsAll P ops.toList A [] (canGo P A ops.toList 0 []) 0 with
          | false => rw [hp] at hr; cases hr
          | true => rw [hp] at hr; cases hr; exact ⟨A, rfl⟩
      have hmem : ∀ a ∈ AC.2, ops.toList[a.1]? = some a.2 := fun a ha => by
        obtain ⟨A, rfl⟩ := hC
        rcases canGo_mem P A ops.toList 0 [] a ha with h | h
        · cases h
        · simpa using h.2
      have hcz := sameOrd_Cz (ops := ops.toList) AC.2 0 hb.2 hmem (Nat.eq_of_beq_eq_true hb.1)
      rw [List.drop_zero] at hcz
      have := trace_OPST (P := P) (O := O) n ops.toList AC.1 AC.2 ops.toList 0 st [st.h] []
      rw [← hcz, Option.some.inj ht] at this
      simp only [List.filterMap_nil] at this
      rw [← this]
      cases he : evTrace P (EVR P O) n ops.toList AC.2 st [st.h] [] with
      | none => simp only [he]; rfl
      | some q =>
        have hms := trace_ms _ _ _ _ _ he
        simp only [he, ob_some]
        unfold finK
        rw [← rds_RCHK, hms]
        cases rdsOK P (EVR P O) AC.2 AC.1 st.ms q.2.1 q.2.2 <;> rfl
/-! the same, in another order: new blocks laid late -/
noncomputable def tabL (P : Program) (A : List Nat) (C : List (Nat × Oper)) : List (Nat × Oper) → Tab
  | [] => []
  | a :: l => tabAt P A C a.1 a.2 :: tabL P A C l
noncomputable def drawTabC (P : Program) (ops : List Oper) : Option (List Nat × Tab) := match regOK P ops with
  | none => none
  | some AC => some (AC.2.map (·.1), tabL P AC.1 AC.2 AC.2)
noncomputable def dfltO : Oper := { dst := none, op := .move (.tmp 0), type := 0, pos := "", after := #[], guard := none }
noncomputable def nthO : Nat → List Oper → Oper
  | _, [] => dfltO
  | 0, a :: _ => a
  | n + 1, _ :: l => nthO n l
noncomputable def permO : List Nat → List Oper → List Oper
  | [], _ => []
  | i :: ix, l => nthO i l :: permO ix l
theorem nthO_z (a : Oper) (l : List Oper) : nthO 0 (a :: l) = a := (rfl)
theorem nthO_s (n : Nat) (a : Oper) (l : List Oper) : nthO (n + 1) (a :: l) = nthO n l := (rfl)
theorem permO_n (l : List Oper) : permO [] l = [] := (rfl)
theorem permO_c (i : Nat) (ix : List Nat) (l : List Oper) : permO (i :: ix) l = nthO i l :: permO ix l := (rfl)
theorem nthO_get : ∀ (l : List Oper) (i : Nat) (a : Oper), l[i]? = some a → nthO i l = a
  | [], i, a, h => by simp at h
  | b :: l, 0, a, h => by simpa [nthO] using h
  | b :: l, i + 1, a, h => nthO_get l i a (by simpa using h)
theorem permO_mem {ops : List Oper} : ∀ (C : List (Nat × Oper)), (∀ a ∈ C, ops[a.1]? = some a.2) → permO (C.map (·.1)) ops = C.map (·.2)
  | [], _ => rfl
  | a :: C, h => by
    simp only [List.map_cons, permO, permO_mem C (fun b hb => h b (List.mem_cons_of_mem _ hb)), nthO_get _ _ _ (h a (List.mem_cons_self ..))]
theorem trace_OPSTL (n : Nat) (all : List Oper) (A : List Nat) (C : List (Nat × Oper)) : ∀ (l : List (Nat × Oper)) (st : St) (hs : List Heap) (rs : List Rd),
    (match evTrace P (EVR P O) n all l st hs rs with | some q => some (q.1, q.2.1, q.2.2.filterMap (gR P A C)) | none => none) = OPST P O n all (l.map (·.2)) (tabL P A C l) st hs (rs.filterMap (gR P A C))
  | [], st, hs, rs => rfl
  | (i, o) :: l, st, hs, rs => by
    have ih := trace_OPSTL n all A C l
    show (match cnd (wantedL all o st.tm) (ob (evO P (EVR P O) o st) fun vh => evTrace P (EVR P O) n all l ⟨putL n st.tm o.dst vh.1, vh.2, st.ms⟩ (cnd (isChg P o) (hs ++ [vh.2]) hs) (cnd (Nat.beq (cls P o.op) 1) (rs ++ [⟨i, o, st.tm, vh.1⟩]) rs)) (evTrace P (EVR P O) n all l ⟨putL n st.tm o.dst undef, st.h, st.ms⟩ (cnd (isChg P o) (hs ++ [st.h]) hs) rs) with | some q => some (q.1, q.2.1, q.2.2.filterMap (gR P A C)) | none => none) =
      cnd (wantedL all o st.tm) (ob (evO P (EVR P O) o st) fun vh => OPST P O n all (l.map (·.2)) (tabL P A C l) ⟨putL n st.tm o.dst vh.1, vh.2, st.ms⟩ (cnd (tabAt P A C i o).1 (hs ++ [vh.2]) hs) (addR (rs.filterMap (gR P A C)) o st.tm vh.1 (tabAt P A C i o).2)) (OPST P O n all (l.map (·.2)) (tabL P A C l) ⟨putL n st.tm o.dst undef, st.h, st.ms⟩ (cnd (tabAt P A C i o).1 (hs ++ [st.h]) hs) (rs.filterMap (gR P A C)))
    cases wantedL all o st.tm with
    | false => simp only [cnd_false]; exact ih _ _ _
    | true =>
      simp only [cnd_true]
      cases evO P (EVR P O) o st with
      | none => rfl
      | some vh =>
        simp only [ob_some]
        rw [ih]
        congr 1
        unfold tabAt
        cases hc : Nat.beq (cls P o.op) 1 with
        | false => rw [Bool.false_and, cnd_false, cnd_false]; rfl
        | true =>
          rw [Bool.true_and, cnd_true, List.filterMap_append]
          cases hb : Nat.beq (loOf P (A.getD i 0) C) (hiOf P A i C) with
          | true =>
            have : gR P A C ⟨i, o, st.tm, vh.1⟩ = none := by unfold gR; rw [hb]; rfl
            simp [this, addR]
          | false =>
            have : gR P A C ⟨i, o, st.tm, vh.1⟩ = some ⟨o, st.tm, vh.1, loOf P (A.getD i 0) C, hiOf P A i C⟩ := by unfold gR; rw [hb]; rfl
            simp [this, addR]
theorem EC_tabC {ro : Option Nat} {n : Nat} {st : St} {id : Nat} {ops : Array Oper} {ix : List Nat} {tab : Tab} (ht : drawTabC P ops.toList = some (ix, tab)) : EC P O ro n (.region id ops true) st = ob (OPST P O n ops.toList (permO ix ops.toList) tab st [st.h] []) (finK P O) := by
  rw [EC_eq]
  show ob (evRegion P (EVR P O) n ops.toList true st) (fun st' => some (Exit.normal, st')) = _
  unfold drawTabC at ht
  unfold evRegion
  rw [cnd_true]
  cases hr : regOK P ops.toList with
  | none => rw [hr] at ht; cases ht
  | some AC =>
    rw [hr] at ht
    simp only at ht
    have ht1 : AC.2.map (·.1) = ix := congrArg Prod.fst (Option.some.inj ht)
    have ht2 : tabL P AC.1 AC.2 AC.2 = tab := congrArg Prod.snd (Option.some.inj ht)
    have hC : ∃ A, AC = (A, canGo P A ops.toList 0 []) := by
      unfold regOK at hr
      cases ha : ancGo ops.toList 0 [] with
      | none => rw [ha] at hr; cases hr
      | some A =>
        rw [ha] at hr
        simp only at hr
        cases hp : pairsAll P ops.toList A [] (canGo P A ops.toList 0 []) 0 with
        | false => rw [hp] at hr; cases hr
        | true => rw [hp] at hr; cases hr; exact ⟨A, rfl⟩
    have hmem : ∀ a ∈ AC.2, ops.toList[a.1]? = some a.2 := fun a ha => by
      obtain ⟨A, rfl⟩ := hC
      rcases canGo_mem P A ops.toList 0 [] a ha with h | h
      · cases h
      · simpa using h.2
    have := trace_OPSTL (P := P) (O := O) n ops.toList AC.1 AC.2 AC.2 st [st.h] []
    rw [ht2, ← permO_mem AC.2 hmem, ht1] at this
    simp only [List.filterMap_nil] at this
    rw [← this]
    cases he : evTrace P (EVR P O) n ops.toList AC.2 st [st.h] [] with
    | none => simp only [he]; rfl
    | some q =>
      have hms := trace_ms _ _ _ _ _ he
      simp only [he, ob_some]
      unfold finK
      rw [← rds_RCHK, hms]
      cases rdsOK P (EVR P O) AC.2 AC.1 st.ms q.2.1 q.2.2 <;> rfl
/-! by rewriting -/
variable {n : Nat}
noncomputable def opstK (P : Program) (O : Orc) (n : Nat) (all : List Oper) (o : Oper) (l : List Oper) (c : Bool × Option (Nat × Nat)) (cs : Tab) (tm : Fr) (ms : List Nat) (hs : List Heap) (rs : List RdS) (vh : Value × Heap) : Option (St × List Heap × List RdS) :=
  OPST P O n all l cs ⟨putL n tm o.dst vh.1, vh.2, ms⟩ (cnd c.1 (hs ++ [vh.2]) hs) (addR rs o tm vh.1 c.2)
noncomputable def gardT (P : Program) (O : Orc) (n : Nat) (all : List Oper) (o : Oper) (l : List Oper) (c : Bool × Option (Nat × Nat)) (cs : Tab) (st : St) (hs : List Heap) (rs : List RdS) (b : Bool) : Option (St × List Heap × List RdS) :=
  cnd b (ob (ROP P O o.op st) (opstK P O n all o l c cs st.tm st.ms hs rs)) (OPST P O n all l cs ⟨putL n st.tm o.dst undef, st.h, st.ms⟩ (cnd c.1 (hs ++ [st.h]) hs) rs)
theorem ROP_evO (o : Oper) (st : St) : evO P (EVR P O) o st = ROP P O o.op st := by
  unfold evO ROP
  cases o.op <;> rfl
theorem OPST_n (all : List Oper) (cs : Tab) (st : St) (hs : List Heap) (rs : List RdS) : OPST P O n all [] cs st hs rs = some (st, hs, rs) := by unfold OPST; rfl
theorem OPST_plain (all : List Oper) (d : Option Tmp) (op : Op) (t : TypeId) (p : String) (a : Array Edge) (l : List Oper) (c : Bool × Option (Nat × Nat)) (cs : Tab) (st : St) (hs : List Heap) (rs : List RdS) : OPST P O n all (⟨d, op, t, p, a, none⟩ :: l) (c :: cs) st hs rs = ob (ROP P O op st) (opstK P O n all ⟨d, op, t, p, a, none⟩ l c cs st.tm st.ms hs rs) := by
  show cnd true (ob (evO P (EVR P O) ⟨d, op, t, p, a, none⟩ st) _) _ = _
  rw [cnd_true, ROP_evO]
  rfl
theorem OPST_guard (all : List Oper) (d : Option Tmp) (op : Op) (t : TypeId) (p : String) (a : Array Edge) (j : Nat) (w : Bool) (l : List Oper) (c : Bool × Option (Nat × Nat)) (cs : Tab) (st : St) (hs : List Heap) (rs : List RdS) : OPST P O n all (⟨d, op, t, p, a, some (j, w)⟩ :: l) (c :: cs) st hs rs = gardT P O n all ⟨d, op, t, p, a, some (j, w)⟩ l c cs st hs rs (guardL all st.tm j w) := by
  unfold gardT
  rw [← ROP_evO]
  rfl
theorem gardT_t (all : List Oper) (d : Option Tmp) (op : Op) (t : TypeId) (p : String) (a : Array Edge) (g : Option (Nat × Bool)) (l : List Oper) (c : Bool × Option (Nat × Nat)) (cs : Tab) (st : St) (hs : List Heap) (rs : List RdS) : gardT P O n all ⟨d, op, t, p, a, g⟩ l c cs st hs rs true = ob (ROP P O op st) (opstK P O n all ⟨d, op, t, p, a, g⟩ l c cs st.tm st.ms hs rs) := (rfl)
theorem gardT_f (all : List Oper) (d : Option Tmp) (op : Op) (t : TypeId) (p : String) (a : Array Edge) (g : Option (Nat × Bool)) (l : List Oper) (b : Bool) (q : Option (Nat × Nat)) (cs : Tab) (st : St) (hs : List Heap) (rs : List RdS) : gardT P O n all ⟨d, op, t, p, a, g⟩ l (b, q) cs st hs rs false = OPST P O n all l cs ⟨putL n st.tm d undef, st.h, st.ms⟩ (cnd b (hs ++ [st.h]) hs) rs := (rfl)
theorem WPo_gardT {all : List Oper} {o : Oper} {l : List Oper} {c : Bool × Option (Nat × Nat)} {cs : Tab} {st : St} {hs : List Heap} {rs : List RdS} {b : Bool} {Q : St × List Heap × List RdS → Prop} (h : b = true → WPo (ob (ROP P O o.op st) (opstK P O n all o l c cs st.tm st.ms hs rs)) Q) (k : b = false → WPo (OPST P O n all l cs ⟨putL n st.tm o.dst undef, st.h, st.ms⟩ (cnd c.1 (hs ++ [st.h]) hs) rs) Q) : WPo (gardT P O n all o l c cs st hs rs b) Q := by
  cases b with
  | true => exact h rfl
  | false => exact k rfl
theorem opstK_eq (all : List Oper) (d : Option Tmp) (op : Op) (t : TypeId) (p : String) (a : Array Edge) (g : Option (Nat × Bool)) (l : List Oper) (b : Bool) (q : Option (Nat × Nat)) (cs : Tab) (tm : Fr) (ms : List Nat) (hs : List Heap) (rs : List RdS) (v : Value) (h : Heap) :
    opstK P O n all ⟨d, op, t, p, a, g⟩ l (b, q) cs tm ms hs rs (v, h) = OPST P O n all l cs ⟨putL n tm d v, h, ms⟩ (cnd b (hs ++ [h]) hs) (addR rs ⟨d, op, t, p, a, g⟩ tm v q) := (rfl)
theorem addR_n (rs : List RdS) (o : Oper) (tm : Fr) (v : Value) : addR rs o tm v none = rs := (rfl)
theorem addR_s (rs : List RdS) (o : Oper) (tm : Fr) (v : Value) (lo hi : Nat) : addR rs o tm v (some (lo, hi)) = rs ++ [⟨o, tm, v, lo, hi⟩] := (rfl)
theorem finK_eq (tm : Fr) (h : Heap) (ms : List Nat) (hs : List Heap) (rs : List RdS) : finK P O (⟨tm, h, ms⟩, hs, rs) = cnd (RCHK P O ms hs rs) (some (.normal, ⟨tm, h, ms⟩)) none := (rfl)
theorem RCHK_n (ms : List Nat) (hs : List Heap) : RCHK P O ms hs [] = true := (rfl)
theorem RCHK_c (ms : List Nat) (hs : List Heap) (o : Oper) (tm : Fr) (v : Value) (lo hi : Nat) (xs : List RdS) : RCHK P O ms hs (⟨o, tm, v, lo, hi⟩ :: xs) = (ALLH P O o tm v ms ((hs.drop lo).take (hi + 1 - lo)) && RCHK P O ms hs xs) := (rfl)
theorem ALLH_n (o : Oper) (tm : Fr) (v : Value) (ms : List Nat) : ALLH P O o tm v ms [] = true := (rfl)
theorem ALLH_c (o : Oper) (tm : Fr) (v : Value) (ms : List Nat) (h : Heap) (hs : List Heap) : ALLH P O o tm v ms (h :: hs) = (RD1 P O o tm v ms h && ALLH P O o tm v ms hs) := (rfl)
noncomputable def VQ (v : Value) (x : VH) : Bool := match x with
  | some vh => veq v vh.1
  | none => false
theorem RD1_eq (d : Option Tmp) (op : Op) (t : TypeId) (p : String) (a : Array Edge) (g : Option (Nat × Bool)) (tm : Fr) (v : Value) (ms : List Nat) (h : Heap) : RD1 P O ⟨d, op, t, p, a, g⟩ tm v ms h = VQ v (ROP P O op ⟨tm, h, ms⟩) := by
  unfold RD1
  rw [ROP_evO]
  rfl
theorem VQ_s (v u : Value) (h : Heap) : VQ v (some (u, h)) = veq v u := (rfl)
theorem veq_int (k : IntKind) (a : Int) : veq (.int k a) (.int k a) = true := by
  show (decide (k = k) && decide (a = a)) = true
  simp
theorem veq_bool (b : Bool) : veq (.bool b) (.bool b) = true := by
  show (b == b) = true
  simp
theorem veq_str (s : ByteArray) : veq (.string s) (.string s) = true := by
  show (s.data.toList == s.data.toList) = true
  simp
theorem veq_strV (l : List UInt8) : veq (strV l) (strV l) = true := veq_str _
theorem veq_ptr (b o : Nat) : veq (ptr b o) (ptr b o) = true := by
  show (Nat.beq b b && Nat.beq o o) = true
  rw [Nat.beq_refl, Nat.beq_refl]; rfl
theorem veq_sl (a : Option Addr) (n c : Nat) (ha : ∀ x, a = some x → x.spot = none) : veq (.slice a n c) (.slice a n c) = true := by
  cases a with
  | none => show (Nat.beq n n && Nat.beq c c) = true; rw [Nat.beq_refl, Nat.beq_refl]; rfl
  | some x =>
    obtain ⟨b, o, s⟩ := x
    cases ha _ rfl
    show (Nat.beq b b && (Nat.beq o o && (Nat.beq n n && Nat.beq c c))) = true
    simp only [Nat.beq_refl]; rfl
theorem veq_slN (n c : Nat) : veq (.slice none n c) (.slice none n c) = true := veq_sl _ _ _ (fun x e => by cases e)
theorem veq_slS (b o n c : Nat) : veq (.slice (some ⟨b, o, none⟩) n c) (.slice (some ⟨b, o, none⟩) n c) = true := veq_sl _ _ _ (fun x e => by cases e; rfl)
theorem veq_agg (l : List Value) : veq (.agg ⟨l⟩) (.agg ⟨l⟩) = veqL l l := (rfl)
theorem veqL_n : veqL [] [] = true := (rfl)
theorem veqL_c (a b : Value) (l m : List Value) (ha : ∀ x, a ≠ .agg x) (ha' : ∀ x, a ≠ .tuple x) : veqL (a :: l) (b :: m) = (veq a b && veqL l m) := by
  show (veq1 a b && veqL l m) = _
  congr 1
  cases a <;> first | rfl | exact absurd rfl (ha _) | exact absurd rfl (ha' _)
theorem veqL_flat : ∀ l : List Value, l.all flat1 = true → veqL l l = true
  | [], _ => rfl
  | a :: l, h => by
    rw [List.all_cons, Bool.and_eq_true] at h
    show (veq1 a a && veqL l l) = true
    rw [veqL_flat l h.2, Bool.and_true]
    cases a <;> first | (cases h.1; done) | skip
    · exact veq_bool _
    · exact veq_int _ _
    · exact veq_str _
end
attribute [go_sem ↓] OPST_n OPST_plain OPST_guard gardT_t gardT_f opstK_eq addR_n addR_s finK_eq RCHK_n RCHK_c ALLH_n ALLH_c RD1_eq
attribute [go_sem] VQ_s veq_int veq_bool veq_str veq_strV veq_ptr veq_slN veq_slS veq_agg
attribute [irreducible] OPST opstK gardT finK RCHK ALLH RD1 VQ
end Go.Proofs.YtddgcakiceodgaaGreat.EV
