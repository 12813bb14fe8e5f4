/- SY, part 7: regions that draw their order and read what may be turned beside: each such read is held against the memories at which it may stand. No condition. What the operations ask of this program's types: closed facts, written by a program. No condition. What is told beside: the seat's 'awake'; bits.Add64, for which the model stands in. No condition. What is told beside. No condition. Contracts: owed.may, owed.find. No condition. Contracts: owed.Good, owed.Same. No condition. -/
import Derived.Test.YtddgcakiceodgaaGreatM9
import Derived.Test.YtddgcakiceodgaaGreatProg
import Derived.Test.YtddgcakiceodgaaGreatM8
import Derived.KernelRfl
import Derived.Laws.Externs
namespace Go.Proofs.YtddgcakiceodgaaGreat.EV
set_option linter.unusedVariables false
set_option linter.unusedSimpArgs false
open Go Go.RowKit

abbrev Tab := List (Bool × Option (Nat × Nat))
noncomputable def tabAt (P : Program) (A : List Nat) (C : List (Nat × Oper)) (i : Nat) (o : Oper) : Bool × Option (Nat × Nat) :=
 (isChg P o, cnd (Nat.beq (cls P o.op) 1 && !Nat.beq (loOf P (A.getD i 0) C) (hiOf P A i C)) (some (loOf P (A.getD i 0) C, hiOf P A i C)) none)
noncomputable def tabGo (P : Program) (A : List Nat) (C : List (Nat × Oper)) : List Oper → Nat → Tab
 | [], _ => []
 | o :: l, i => tabAt P A C i o :: tabGo P A C l (Nat.succ i)
noncomputable def drawTab (P : Program) (ops : List Oper) : Option Tab := match regOK P ops with
 | none => none
 | some AC => cnd (Nat.beq AC.2.length ops.length && sameOrd AC.2 0) (some (tabGo P AC.1 AC.2 ops 0)) none
structure RdS where
 o : Oper
 tm : Fr
 v : Value
 lo : Nat
 hi : Nat
noncomputable def RD1 (P : Program) (O : Orc) (o : Oper) (tm : Fr) (v : Value) (ms : List Nat) (h : Heap) : Bool := match evO P (EVR P O) o ⟨tm, h, ms⟩ with
 | some vh => veq v vh.1
 | none => false
noncomputable def ALLH (P : Program) (O : Orc) (o : Oper) (tm : Fr) (v : Value) (ms : List Nat) : List Heap → Bool
 | [] => true
 | h :: hs => RD1 P O o tm v ms h && ALLH P O o tm v ms hs
noncomputable def RCHK (P : Program) (O : Orc) (ms : List Nat) (hs : List Heap) : List RdS → Bool
 | [] => true
 | x :: xs => ALLH P O x.o x.tm x.v ms ((hs.drop x.lo).take (x.hi + 1 - x.lo)) && RCHK P O ms hs xs
noncomputable def addR (rs : List RdS) (o : Oper) (tm : Fr) (v : Value) : Option (Nat × Nat) → List RdS
 | none => rs
 | some q => rs ++ [⟨o, tm, v, q.1, q.2⟩]
noncomputable def OPST (P : Program) (O : Orc) (n : Nat) (all : List Oper) : List Oper → Tab → St → List Heap → List RdS → Option (St × List Heap × List RdS)
 | [], _, st, hs, rs => some (st, hs, rs)
 | o :: l, [], st, hs, rs => none
 | o :: l, c :: cs, st, hs, rs => cnd (wantedL all o st.tm) (ob (evO P (EVR P O) o st) fun vh => OPST P O n all l cs ⟨putL n st.tm o.dst vh.1, vh.2, st.ms⟩ (cnd c.1 (hs ++ [vh.2]) hs) (addR rs o st.tm vh.1 c.2)) (OPST P O n all l cs ⟨putL n st.tm o.dst undef, st.h, st.ms⟩ (cnd c.1 (hs ++ [st.h]) hs) rs)
noncomputable def finK (P : Program) (O : Orc) (q : St × List Heap × List RdS) : CR := cnd (RCHK P O q.1.ms q.2.1 q.2.2) (some (.normal, q.1)) none

noncomputable def Cz : List Oper → Nat → List (Nat × Oper)
 | [], _ => []
 | o :: l, i => (i, o) :: Cz l (i + 1)
theorem sameOrd_Cz {ops : List Oper} : ∀ (C : List (Nat × Oper)) (i : Nat), sameOrd C i = true → (∀ a ∈ C, ops[a.1]? = some a.2) → C.length + i = ops.length → C = Cz (ops.drop i) i
 | [], i, _, _, hl => by simp only [List.length_nil, Nat.zero_add] at hl; rw [hl, List.drop_length]; rfl
 | a :: l, i, h, hm, hl => by
  simp only [sameOrd, Bool.and_eq_true] at h
  have e := Nat.eq_of_beq_eq_true h.1
  have h1 := hm a (List.mem_cons_self ..)
  rw [e] at h1
  have hlt := (List.getElem?_eq_some_iff.1 h1).1
  rw [List.drop_eq_getElem_cons hlt, Cz, ← sameOrd_Cz l (i + 1) h.2 (fun b hb => hm b (List.mem_cons_of_mem _ hb)) (by simp only [List.length_cons] at hl; omega)]
  rw [List.getElem?_eq_getElem hlt] at h1
  rw [Option.some.inj h1]
  obtain ⟨a1, a2⟩ := a
  simp only at e
  rw [e]
section
variable {P : Program} {O : Orc}
noncomputable def gR (P : Program) (A : List Nat) (C : List (Nat × Oper)) (x : Rd) : Option RdS := cnd (Nat.beq (loOf P (A.getD x.i 0) C) (hiOf P A x.i C)) none (some ⟨x.o, x.tm, x.v, loOf P (A.getD x.i 0) C, hiOf P A x.i C⟩)
theorem rdAt_ALLH (x : Rd) (ms : List Nat) : ∀ hs : List Heap, rdAt P (EVR P O) x ms hs = ALLH P O x.o x.tm x.v ms hs
 | [] => rfl
 | h :: hs => by
  show (rdOne P (EVR P O) x ms h && rdAt P (EVR P O) x ms hs) = (RD1 P O x.o x.tm x.v ms h && ALLH P O x.o x.tm x.v ms hs)
  rw [rdAt_ALLH x ms hs]
  rfl
theorem rds_RCHK (A : List Nat) (C : List (Nat × Oper)) (ms : List Nat) (hs : List Heap) : ∀ rs : List Rd, rdsOK P (EVR P O) C A ms hs rs = RCHK P O ms hs (rs.filterMap (gR P A C))
 | [] => rfl
 | x :: rs => by
  show ((Nat.beq (loOf P (A.getD x.i 0) C) (hiOf P A x.i C) || rdAt P (EVR P O) x ms ((hs.drop (loOf P (A.getD x.i 0) C)).take (Nat.succ (hiOf P A x.i C) - loOf P (A.getD x.i 0) C))) && rdsOK P (EVR P O) C A ms hs rs) = _
  rw [rds_RCHK A C ms hs rs, List.filterMap_cons]
  cases hb : Nat.beq (loOf P (A.getD x.i 0) C) (hiOf P A x.i C) with
  | true =>
   have : gR P A C x = none := by unfold gR; rw [hb]; rfl
   rw [this, Bool.true_or, Bool.true_and]
  | false =>
   have : gR P A C x = some ⟨x.o, x.tm, x.v, loOf P (A.getD x.i 0) C, hiOf P A x.i C⟩ := by unfold gR; rw [hb]; rfl
   rw [this, Bool.false_or, rdAt_ALLH]
   rfl
theorem trace_OPST (n : Nat) (all : List Oper) (A : List Nat) (C : List (Nat × Oper)) : ∀ (l : List Oper) (i : Nat) (st : St) (hs : List Heap) (rs : List Rd),
  (match evTrace P (EVR P O) n all (Cz l i) st hs rs with | some q => some (q.1, q.2.1, q.2.2.filterMap (gR P A C)) | none => none) = OPST P O n all l (tabGo P A C l i) st hs (rs.filterMap (gR P A C))
 | [], i, st, hs, rs => rfl
 | o :: l, i, st, hs, rs => by
  have ih := trace_OPST n all A C l (i + 1)
  show (match cnd (wantedL all o st.tm) (ob (evO P (EVR P O) o st) fun vh => evTrace P (EVR P O) n all (Cz l (i + 1)) ⟨putL n st.tm o.dst vh.1, vh.2, st.ms⟩ (cnd (isChg P o) (hs ++ [vh.2]) hs) (cnd (Nat.beq (cls P o.op) 1) (rs ++ [⟨i, o, st.tm, vh.1⟩]) rs)) (evTrace P (EVR P O) n all (Cz l (i + 1)) ⟨putL n st.tm o.dst undef, st.h, st.ms⟩ (cnd (isChg P o) (hs ++ [st.h]) hs) rs) with | some q => some (q.1, q.2.1, q.2.2.filterMap (gR P A C)) | none => none) =
   cnd (wantedL all o st.tm) (ob (evO P (EVR P O) o st) fun vh => OPST P O n all l (tabGo P A C l (i + 1)) ⟨putL n st.tm o.dst vh.1, vh.2, st.ms⟩ (cnd (tabAt P A C i o).1 (hs ++ [vh.2]) hs) (addR (rs.filterMap (gR P A C)) o st.tm vh.1 (tabAt P A C i o).2)) (OPST P O n all l (tabGo P A C l (i + 1)) ⟨putL n st.tm o.dst undef, st.h, st.ms⟩ (cnd (tabAt P A C i o).1 (hs ++ [st.h]) hs) (rs.filterMap (gR P A C)))
  cases wantedL all o st.tm with
  | false => simp only [cnd_false]; exact ih _ _ _
  | true =>
   simp only [cnd_true]
   cases evO P (EVR P O) o st with
   | none => rfl
   | some vh =>
    simp only [ob_some]
    rw [ih]
    congr 1
    unfold tabAt
    cases hc : Nat.beq (cls P o.op) 1 with
    | false => rw [Bool.false_and, cnd_false, cnd_false]; rfl
    | true =>
     rw [Bool.true_and, cnd_true, List.filterMap_append]
     cases hb : Nat.beq (loOf P (A.getD i 0) C) (hiOf P A i C) with
     | true =>
      have : gR P A C ⟨i, o, st.tm, vh.1⟩ = none := by unfold gR; rw [hb]; rfl
      simp [this, addR]
     | false =>
      have : gR P A C ⟨i, o, st.tm, vh.1⟩ = some ⟨o, st.tm, vh.1, loOf P (A.getD i 0) C, hiOf P A i C⟩ := by unfold gR; rw [hb]; rfl
      simp [this, addR]
theorem trace_ms {r : Rec} {n : Nat} {all : List Oper} : ∀ (l : List (Nat × Oper)) (st : St) (hs : List Heap) (rs : List Rd) (q : St × List Heap × List Rd), evTrace P r n all l st hs rs = some q → q.1.ms = st.ms
 | [], st, hs, rs, q, e => by cases e; rfl
 | a :: l, st, hs, rs, q, e => by
  have e' : cnd (wantedL all a.2 st.tm) (ob (evO P r a.2 st) fun vh => evTrace P r n all l ⟨putL n st.tm a.2.dst vh.1, vh.2, st.ms⟩ (cnd (isChg P a.2) (hs ++ [vh.2]) hs) (cnd (Nat.beq (cls P a.2.op) 1) (rs ++ [⟨a.1, a.2, st.tm, vh.1⟩]) rs)) (evTrace P r n all l ⟨putL n st.tm a.2.dst undef, st.h, st.ms⟩ (cnd (isChg P a.2) (hs ++ [st.h]) hs) rs) = some q := e
  cases hw : wantedL all a.2 st.tm with
  | false => rw [hw, cnd_false] at e'; have := trace_ms l _ _ _ q e'; exact this
  | true =>
   rw [hw, cnd_true] at e'
   obtain ⟨vh, _, e'⟩ := ob_inv e'
   have := trace_ms l _ _ _ q e'
   exact this
theorem EC_tab {ro : Option Nat} {n : Nat} {st : St} {id : Nat} {ops : Array Oper} {tab : Tab} (ht : drawTab P ops.toList = some tab) : EC P O ro n (.region id ops true) st = ob (OPST P O n ops.toList ops.toList tab st [st.h] []) (finK P O) := by
 rw [EC_eq]
 show ob (evRegion P (EVR P O) n ops.toList true st) (fun st' => some (Exit.normal, st')) = _
 unfold drawTab at ht
 unfold evRegion
 rw [cnd_true]
 cases hr : regOK P ops.toList with
 | none => rw [hr] at ht; cases ht
 | some AC =>
  rw [hr] at ht
  simp only at ht
  cases hb : (Nat.beq AC.2.length ops.toList.length && sameOrd AC.2 0) with
  | false => rw [hb] at ht; cases ht
  | true =>
   rw [hb, cnd_true] at ht
   simp only [Bool.and_eq_true] at hb
   have hC : ∃ A, AC = (A, canGo P A ops.toList 0 []) := by
    unfold regOK at hr
    cases ha : ancGo ops.toList 0 [] with
    | none => rw [ha] at hr; cases hr
    | some A =>
     rw [ha] at hr
     simp only at hr
     cases hp : pairsAll P ops.toList A [] (canGo P A ops.toList 0 []) 0 with
     | false => rw [hp] at hr; cases hr
     | true => rw [hp] at hr; cases hr; exact ⟨A, rfl⟩
   have hmem : ∀ a ∈ AC.2, ops.toList[a.1]? = some a.2 := fun a ha => by
    obtain ⟨A, rfl⟩ := hC
    rcases canGo_mem P A ops.toList 0 [] a ha with h | h
    ·cases h
    ·simpa using h.2
   have hcz := sameOrd_Cz (ops := ops.toList) AC.2 0 hb.2 hmem (Nat.eq_of_beq_eq_true hb.1)
   rw [List.drop_zero] at hcz
   have := trace_OPST (P := P) (O := O) n ops.toList AC.1 AC.2 ops.toList 0 st [st.h] []
   rw [← hcz, Option.some.inj ht] at this
   simp only [List.filterMap_nil] at this
   rw [← this]
   cases he : evTrace P (EVR P O) n ops.toList AC.2 st [st.h] [] with
   | none => simp only [he]; rfl
   | some q =>
    have hms := trace_ms _ _ _ _ _ he
    simp only [he, ob_some]
    unfold finK
    rw [← rds_RCHK, hms]
    cases rdsOK P (EVR P O) AC.2 AC.1 st.ms q.2.1 q.2.2 <;> rfl
/-! by rewriting -/
variable {n : Nat}
noncomputable def opstK (P : Program) (O : Orc) (n : Nat) (all : List Oper) (o : Oper) (l : List Oper) (c : Bool × Option (Nat × Nat)) (cs : Tab) (tm : Fr) (ms : List Nat) (hs : List Heap) (rs : List RdS) (vh : Value × Heap) : Option (St × List Heap × List RdS) :=
 OPST P O n all l cs ⟨putL n tm o.dst vh.1, vh.2, ms⟩ (cnd c.1 (hs ++ [vh.2]) hs) (addR rs o tm vh.1 c.2)
noncomputable def gardT (P : Program) (O : Orc) (n : Nat) (all : List Oper) (o : Oper) (l : List Oper) (c : Bool × Option (Nat × Nat)) (cs : Tab) (st : St) (hs : List Heap) (rs : List RdS) (b : Bool) : Option (St × List Heap × List RdS) :=
 cnd b (ob (ROP P O o.op st) (opstK P O n all o l c cs st.tm st.ms hs rs)) (OPST P O n all l cs ⟨putL n st.tm o.dst undef, st.h, st.ms⟩ (cnd c.1 (hs ++ [st.h]) hs) rs)
theorem ROP_evO (o : Oper) (st : St) : evO P (EVR P O) o st = ROP P O o.op st := by
 unfold evO ROP
 cases o.op <;> rfl
theorem OPST_n (all : List Oper) (cs : Tab) (st : St) (hs : List Heap) (rs : List RdS) : OPST P O n all [] cs st hs rs = some (st, hs, rs) := by unfold OPST; rfl
theorem OPST_plain (all : List Oper) (d : Option Tmp) (op : Op) (t : TypeId) (p : String) (a : Array Edge) (l : List Oper) (c : Bool × Option (Nat × Nat)) (cs : Tab) (st : St) (hs : List Heap) (rs : List RdS) : OPST P O n all (⟨d, op, t, p, a, none⟩ :: l) (c :: cs) st hs rs = ob (ROP P O op st) (opstK P O n all ⟨d, op, t, p, a, none⟩ l c cs st.tm st.ms hs rs) := by
 show cnd true (ob (evO P (EVR P O) ⟨d, op, t, p, a, none⟩ st) _) _ = _
 rw [cnd_true, ROP_evO]
 rfl
theorem OPST_guard (all : List Oper) (d : Option Tmp) (op : Op) (t : TypeId) (p : String) (a : Array Edge) (j : Nat) (w : Bool) (l : List Oper) (c : Bool × Option (Nat × Nat)) (cs : Tab) (st : St) (hs : List Heap) (rs : List RdS) : OPST P O n all (⟨d, op, t, p, a, some (j, w)⟩ :: l) (c :: cs) st hs rs = gardT P O n all ⟨d, op, t, p, a, some (j, w)⟩ l c cs st hs rs (guardL all st.tm j w) := by
 unfold gardT
 rw [← ROP_evO]
 rfl
theorem gardT_t (all : List Oper) (d : Option Tmp) (op : Op) (t : TypeId) (p : String) (a : Array Edge) (g : Option (Nat × Bool)) (l : List Oper) (c : Bool × Option (Nat × Nat)) (cs : Tab) (st : St) (hs : List Heap) (rs : List RdS) : gardT P O n all ⟨d, op, t, p, a, g⟩ l c cs st hs rs true = ob (ROP P O op st) (opstK P O n all ⟨d, op, t, p, a, g⟩ l c cs st.tm st.ms hs rs) := (rfl)
theorem gardT_f (all : List Oper) (d : Option Tmp) (op : Op) (t : TypeId) (p : String) (a : Array Edge) (g : Option (Nat × Bool)) (l : List Oper) (b : Bool) (q : Option (Nat × Nat)) (cs : Tab) (st : St) (hs : List Heap) (rs : List RdS) : gardT P O n all ⟨d, op, t, p, a, g⟩ l (b, q) cs st hs rs false = OPST P O n all l cs ⟨putL n st.tm d undef, st.h, st.ms⟩ (cnd b (hs ++ [st.h]) hs) rs := (rfl)
theorem WPo_gardT {all : List Oper} {o : Oper} {l : List Oper} {c : Bool × Option (Nat × Nat)} {cs : Tab} {st : St} {hs : List Heap} {rs : List RdS} {b : Bool} {Q : St × List Heap × List RdS → Prop} (h : b = true → WPo (ob (ROP P O o.op st) (opstK P O n all o l c cs st.tm st.ms hs rs)) Q) (k : b = false → WPo (OPST P O n all l cs ⟨putL n st.tm o.dst undef, st.h, st.ms⟩ (cnd c.1 (hs ++ [st.h]) hs) rs) Q) : WPo (gardT P O n all o l c cs st hs rs b) Q := by
 cases b with
 | true => exact h rfl
 | false => exact k rfl
theorem opstK_eq (all : List Oper) (d : Option Tmp) (op : Op) (t : TypeId) (p : String) (a : Array Edge) (g : Option (Nat × Bool)) (l : List Oper) (b : Bool) (q : Option (Nat × Nat)) (cs : Tab) (tm : Fr) (ms : List Nat) (hs : List Heap) (rs : List RdS) (v : Value) (h : Heap) :
  opstK P O n all ⟨d, op, t, p, a, g⟩ l (b, q) cs tm ms hs rs (v, h) = OPST P O n all l cs ⟨putL n tm d v, h, ms⟩ (cnd b (hs ++ [h]) hs) (addR rs ⟨d, op, t, p, a, g⟩ tm v q) := (rfl)
theorem addR_n (rs : List RdS) (o : Oper) (tm : Fr) (v : Value) : addR rs o tm v none = rs := (rfl)
theorem addR_s (rs : List RdS) (o : Oper) (tm : Fr) (v : Value) (lo hi : Nat) : addR rs o tm v (some (lo, hi)) = rs ++ [⟨o, tm, v, lo, hi⟩] := (rfl)
theorem finK_eq (tm : Fr) (h : Heap) (ms : List Nat) (hs : List Heap) (rs : List RdS) : finK P O (⟨tm, h, ms⟩, hs, rs) = cnd (RCHK P O ms hs rs) (some (.normal, ⟨tm, h, ms⟩)) none := (rfl)
theorem RCHK_n (ms : List Nat) (hs : List Heap) : RCHK P O ms hs [] = true := (rfl)
theorem RCHK_c (ms : List Nat) (hs : List Heap) (o : Oper) (tm : Fr) (v : Value) (lo hi : Nat) (xs : List RdS) : RCHK P O ms hs (⟨o, tm, v, lo, hi⟩ :: xs) = (ALLH P O o tm v ms ((hs.drop lo).take (hi + 1 - lo)) && RCHK P O ms hs xs) := (rfl)
theorem ALLH_n (o : Oper) (tm : Fr) (v : Value) (ms : List Nat) : ALLH P O o tm v ms [] = true := (rfl)
theorem ALLH_c (o : Oper) (tm : Fr) (v : Value) (ms : List Nat) (h : Heap) (hs : List Heap) : ALLH P O o tm v ms (h :: hs) = (RD1 P O o tm v ms h && ALLH P O o tm v ms hs) := (rfl)
noncomputable def VQ (v : Value) (x : VH) : Bool := match x with
 | some vh => veq v vh.1
 | none => false
theorem RD1_eq (d : Option Tmp) (op : Op) (t : TypeId) (p : String) (a : Array Edge) (g : Option (Nat × Bool)) (tm : Fr) (v : Value) (ms : List Nat) (h : Heap) : RD1 P O ⟨d, op, t, p, a, g⟩ tm v ms h = VQ v (ROP P O op ⟨tm, h, ms⟩) := by
 unfold RD1
 rw [ROP_evO]
 rfl
theorem VQ_s (v u : Value) (h : Heap) : VQ v (some (u, h)) = veq v u := (rfl)
theorem veq_int (k : IntKind) (a : Int) : veq (.int k a) (.int k a) = true := by
 show (decide (k = k) && decide (a = a)) = true
 simp
theorem veq_bool (b : Bool) : veq (.bool b) (.bool b) = true := by
 show (b == b) = true
 simp
theorem veq_str (s : ByteArray) : veq (.string s) (.string s) = true := by
 show (s.data.toList == s.data.toList) = true
 simp
theorem veq_strV (l : List UInt8) : veq (strV l) (strV l) = true := veq_str _
theorem veq_ptr (b o : Nat) : veq (ptr b o) (ptr b o) = true := by
 show (Nat.beq b b && Nat.beq o o) = true
 rw [Nat.beq_refl, Nat.beq_refl]; rfl
theorem veq_sl (a : Option Addr) (n c : Nat) (ha : ∀ x, a = some x → x.spot = none) : veq (.slice a n c) (.slice a n c) = true := by
 cases a with
 | none => show (Nat.beq n n && Nat.beq c c) = true; rw [Nat.beq_refl, Nat.beq_refl]; rfl
 | some x =>
  obtain ⟨b, o, s⟩ := x
  cases ha _ rfl
  show (Nat.beq b b && (Nat.beq o o && (Nat.beq n n && Nat.beq c c))) = true
  simp only [Nat.beq_refl]; rfl
theorem veq_slN (n c : Nat) : veq (.slice none n c) (.slice none n c) = true := veq_sl _ _ _ (fun x e => by cases e)
theorem veq_slS (b o n c : Nat) : veq (.slice (some ⟨b, o, none⟩) n c) (.slice (some ⟨b, o, none⟩) n c) = true := veq_sl _ _ _ (fun x e => by cases e; rfl)
theorem veq_agg (l : List Value) : veq (.agg ⟨l⟩) (.agg ⟨l⟩) = veqL l l := (rfl)
end
attribute [go_sem ↓] OPST_n OPST_plain OPST_guard gardT_t gardT_f opstK_eq addR_n addR_s finK_eq RCHK_n RCHK_c ALLH_n ALLH_c RD1_eq
attribute [go_sem] VQ_s veq_int veq_bool veq_str veq_strV veq_ptr veq_slN veq_slS veq_agg
attribute [irreducible] OPST opstK gardT finK RCHK ALLH RD1 VQ
theorem dis {p : Prop} (h : p := by first | decide | omega | (simp only [go_sem]; first | done | omega)) : p := h
theorem EU_rg {P : Program} {O : Orc} {bad : List Nat} {ro : Option Nat} {n : Nat} {st : St} (id : Nat) (ops : Array Oper) (d : Bool) (h : (d && memN id bad) = false) : EU P O bad ro n (.region id ops d) st = ob (OPS P O n ops.toList ops.toList st) normK := by
 cases d with
 | false => exact EU_region id ops
 | true => exact EU_draw id ops h
end Go.Proofs.YtddgcakiceodgaaGreat.EV
namespace Go.Proofs.YtddgcakiceodgaaGreat.EV
open Go Go.Proofs
@[go_sem] theorem fc_of_24_1 : offT Tryz.prog 24 1 = some 1 := Eq.trans (by kernel_rfl) (Eq.refl _)
@[go_sem] theorem fc_ld_22 : ldK Tryz.prog 22 = some none := Eq.trans (by kernel_rfl) (Eq.refl _)
@[go_sem] theorem fc_is_22 : isSl Tryz.prog 22 = true := Eq.trans (by kernel_rfl) (Eq.refl _)
@[go_sem] theorem fc_ld_24 : ldK Tryz.prog 24 = some (some 2) := Eq.trans (by kernel_rfl) (Eq.refl _)
@[go_sem] theorem fc_ip_26 : isPt Tryz.prog 26 = true := Eq.trans (by kernel_rfl) (Eq.refl _)
@[go_sem] theorem fc_un_26 : Tryz.prog.underlying 26 = some (.pointer 81) := Eq.trans (by kernel_rfl) (Eq.refl _)
@[go_sem] theorem fc_sz_81 : sizeT Tryz.prog 81 = some 4 := Eq.trans (by kernel_rfl) (Eq.refl _)
@[go_sem] theorem fc_ip_28 : isPt Tryz.prog 28 = true := Eq.trans (by kernel_rfl) (Eq.refl _)
@[go_sem] theorem fc_un_28 : Tryz.prog.underlying 28 = some (.pointer 76) := Eq.trans (by kernel_rfl) (Eq.refl _)
@[go_sem] theorem fc_sz_76 : sizeT Tryz.prog 76 = some 14 := Eq.trans (by kernel_rfl) (Eq.refl _)
@[go_sem] theorem fc_is_37 : isSl Tryz.prog 37 = true := Eq.trans (by kernel_rfl) (Eq.refl _)
@[go_sem] theorem fc_un_4 : Tryz.prog.underlying 4 = some .bool := Eq.trans (by kernel_rfl) (Eq.refl _)
@[go_sem] theorem fc_zc_24 : zcT Tryz.prog 24 = some [.int .i64 0, .slice none 0 1] := Eq.trans (by kernel_rfl) (Eq.refl _)
@[go_sem] theorem fc_sz_24 : sizeT Tryz.prog 24 = some 2 := Eq.trans (by kernel_rfl) (Eq.refl _)
@[go_sem] theorem fc_bd_43 : bldT Tryz.prog 43 = some ([.int .i64 0, .int .i64 0, .int .i64 0], [(0, 1), (1, 1), (2, 1)]) := Eq.trans (by kernel_rfl) (Eq.refl _)
@[go_sem] theorem fc_bs_22_1 : bslT Tryz.prog 22 1 = some (3, [.int .i64 0, .int .i64 0, .int .i64 0]) := Eq.trans (by kernel_rfl) (Eq.refl _)
@[go_sem] theorem fc_bd_24 : bldT Tryz.prog 24 = some ([.int .i64 0, .slice none 0 1], [(0, 1), (1, 1)]) := Eq.trans (by kernel_rfl) (Eq.refl _)
@[go_sem] theorem fc_is_46 : isSl Tryz.prog 46 = true := Eq.trans (by kernel_rfl) (Eq.refl _)
@[go_sem] theorem fc_sl_46 : slT Tryz.prog 46 = some 3 := Eq.trans (by kernel_rfl) (Eq.refl _)
@[go_sem] theorem fc_ld_55 : ldK Tryz.prog 55 = some (some 3) := Eq.trans (by kernel_rfl) (Eq.refl _)
@[go_sem] theorem fc_zc_55 : zcT Tryz.prog 55 = some [.int .i64 0, .int .i64 0, .int .u8 0] := Eq.trans (by kernel_rfl) (Eq.refl _)
@[go_sem] theorem fc_sz_55 : sizeT Tryz.prog 55 = some 3 := Eq.trans (by kernel_rfl) (Eq.refl _)
@[go_sem] theorem fc_of_55_0 : offT Tryz.prog 55 0 = some 0 := Eq.trans (by kernel_rfl) (Eq.refl _)
@[go_sem] theorem fc_ld_3 : ldK Tryz.prog 3 = some none := Eq.trans (by kernel_rfl) (Eq.refl _)
@[go_sem] theorem fc_cv_3_56 : cvT Tryz.prog 3 56 = some .u64 := Eq.trans (by kernel_rfl) (Eq.refl _)
@[go_sem] theorem fc_zc_52 : zcT Tryz.prog 52 = some [.int .i64 0, .slice none 0 1] := Eq.trans (by kernel_rfl) (Eq.refl _)
@[go_sem] theorem fc_sz_52 : sizeT Tryz.prog 52 = some 2 := Eq.trans (by kernel_rfl) (Eq.refl _)
@[go_sem] theorem fc_ld_52 : ldK Tryz.prog 52 = some (some 2) := Eq.trans (by kernel_rfl) (Eq.refl _)
@[go_sem] theorem fc_is_62 : isSl Tryz.prog 62 = true := Eq.trans (by kernel_rfl) (Eq.refl _)
@[go_sem] theorem fc_of_55_1 : offT Tryz.prog 55 1 = some 1 := Eq.trans (by kernel_rfl) (Eq.refl _)
@[go_sem] theorem fc_of_55_2 : offT Tryz.prog 55 2 = some 2 := Eq.trans (by kernel_rfl) (Eq.refl _)
@[go_sem] theorem fc_ld_5 : ldK Tryz.prog 5 = some none := Eq.trans (by kernel_rfl) (Eq.refl _)
@[go_sem] theorem fc_sl_37 : slT Tryz.prog 37 = some 1 := Eq.trans (by kernel_rfl) (Eq.refl _)
@[go_sem] theorem fc_sz_5 : sizeT Tryz.prog 5 = some 1 := Eq.trans (by kernel_rfl) (Eq.refl _)
@[go_sem] theorem fc_un_37 : Tryz.prog.underlying 37 = some (.slice 5) := Eq.trans (by kernel_rfl) (Eq.refl _)
@[go_sem] theorem fc_un_5 : Tryz.prog.underlying 5 = some (.int .u8) := Eq.trans (by kernel_rfl) (Eq.refl _)
@[go_sem] theorem fc_un_9 : Tryz.prog.underlying 9 = some .string := Eq.trans (by kernel_rfl) (Eq.refl _)
@[go_sem] theorem fc_bd_76 : bldT Tryz.prog 76 = some ([.pointer none, .int .i64 0, .int .i64 0, .int .i64 0, .int .i64 0, .int .i64 0, .slice none 0 1, .pointer none, .bool false, .bool false, .bool false, .bool false, .bool false, .bool false], [(0, 1), (1, 1), (2, 1), (3, 1), (4, 1), (5, 1), (6, 1), (7, 1), (8, 6)]) := Eq.trans (by kernel_rfl) (Eq.refl _)
@[go_sem] theorem fc_of_76_3 : offT Tryz.prog 76 3 = some 3 := Eq.trans (by kernel_rfl) (Eq.refl _)
@[go_sem] theorem fc_sz_3 : sizeT Tryz.prog 3 = some 1 := Eq.trans (by kernel_rfl) (Eq.refl _)
@[go_sem] theorem fc_of_76_4 : offT Tryz.prog 76 4 = some 4 := Eq.trans (by kernel_rfl) (Eq.refl _)
@[go_sem] theorem fc_ld_29 : ldK Tryz.prog 29 = some none := Eq.trans (by kernel_rfl) (Eq.refl _)
@[go_sem] theorem fc_of_81_0 : offT Tryz.prog 81 0 = some 0 := Eq.trans (by kernel_rfl) (Eq.refl _)
@[go_sem] theorem fc_ld_71 : ldK Tryz.prog 71 = some none := Eq.trans (by kernel_rfl) (Eq.refl _)
@[go_sem] theorem fc_of_24_0 : offT Tryz.prog 24 0 = some 0 := Eq.trans (by kernel_rfl) (Eq.refl _)
@[go_sem] theorem fc_of_86_0 : offT Tryz.prog 86 0 = some 0 := Eq.trans (by kernel_rfl) (Eq.refl _)
@[go_sem] theorem fc_ld_84 : ldK Tryz.prog 84 = some none := Eq.trans (by kernel_rfl) (Eq.refl _)
@[go_sem] theorem fc_of_76_6 : offT Tryz.prog 76 6 = some 6 := Eq.trans (by kernel_rfl) (Eq.refl _)
@[go_sem] theorem fc_ld_37 : ldK Tryz.prog 37 = some none := Eq.trans (by kernel_rfl) (Eq.refl _)
@[go_sem] theorem fc_of_81_1 : offT Tryz.prog 81 1 = some 1 := Eq.trans (by kernel_rfl) (Eq.refl _)
@[go_sem] theorem fc_ld_79 : ldK Tryz.prog 79 = some none := Eq.trans (by kernel_rfl) (Eq.refl _)
@[go_sem] theorem fc_mp_79 : mpT Tryz.prog 79 = some (.int .i64 0) := Eq.trans (by kernel_rfl) (Eq.refl _)
@[go_sem] theorem fc_of_81_2 : offT Tryz.prog 81 2 = some 2 := Eq.trans (by kernel_rfl) (Eq.refl _)
@[go_sem] theorem fc_ld_2 : ldK Tryz.prog 2 = some none := Eq.trans (by kernel_rfl) (Eq.refl _)
@[go_sem] theorem fc_sz_2 : sizeT Tryz.prog 2 = some 1 := Eq.trans (by kernel_rfl) (Eq.refl _)
@[go_sem] theorem fc_sz_37 : sizeT Tryz.prog 37 = some 1 := Eq.trans (by kernel_rfl) (Eq.refl _)
@[go_sem] theorem fc_of_76_8 : offT Tryz.prog 76 8 = some 8 := Eq.trans (by kernel_rfl) (Eq.refl _)
@[go_sem] theorem fc_ar_74 : arT Tryz.prog 74 = some (6, 1) := Eq.trans (by kernel_rfl) (Eq.refl _)
@[go_sem] theorem fc_sz_4 : sizeT Tryz.prog 4 = some 1 := Eq.trans (by kernel_rfl) (Eq.refl _)
@[go_sem] theorem fc_of_52_1 : offT Tryz.prog 52 1 = some 1 := Eq.trans (by kernel_rfl) (Eq.refl _)
@[go_sem] theorem fc_ld_50 : ldK Tryz.prog 50 = some none := Eq.trans (by kernel_rfl) (Eq.refl _)
@[go_sem] theorem fc_is_50 : isSl Tryz.prog 50 = true := Eq.trans (by kernel_rfl) (Eq.refl _)
@[go_sem] theorem fc_sl_50 : slT Tryz.prog 50 = some 3 := Eq.trans (by kernel_rfl) (Eq.refl _)
@[go_sem] theorem fc_of_91_2 : offT Tryz.prog 91 2 = some 2 := Eq.trans (by kernel_rfl) (Eq.refl _)
@[go_sem] theorem fc_of_94_3 : offT Tryz.prog 94 3 = some 3 := Eq.trans (by kernel_rfl) (Eq.refl _)
@[go_sem] theorem fc_ld_92 : ldK Tryz.prog 92 = some none := Eq.trans (by kernel_rfl) (Eq.refl _)
@[go_sem] theorem fc_of_91_0 : offT Tryz.prog 91 0 = some 0 := Eq.trans (by kernel_rfl) (Eq.refl _)
@[go_sem] theorem fc_of_91_1 : offT Tryz.prog 91 1 = some 1 := Eq.trans (by kernel_rfl) (Eq.refl _)
@[go_sem] theorem fc_bd_97 : bldT Tryz.prog 97 = some ([.int .i64 0, .int .i64 0, .int .i64 0, .int .i64 0], [(0, 1), (1, 1), (2, 1), (3, 1)]) := Eq.trans (by kernel_rfl) (Eq.refl _)
@[go_sem] theorem fc_bs_92_1 : bslT Tryz.prog 92 1 = some (4, [.int .i64 0, .int .i64 0, .int .i64 0, .int .i64 0]) := Eq.trans (by kernel_rfl) (Eq.refl _)
@[go_sem] theorem fc_ap_92_92 : apT Tryz.prog 92 92 = some (4, 32) := Eq.trans (by kernel_rfl) (Eq.refl _)
@[go_sem] theorem fc_sz_92 : sizeT Tryz.prog 92 = some 1 := Eq.trans (by kernel_rfl) (Eq.refl _)
@[go_sem] theorem fc_of_52_0 : offT Tryz.prog 52 0 = some 0 := Eq.trans (by kernel_rfl) (Eq.refl _)
@[go_sem] theorem fc_of_94_2 : offT Tryz.prog 94 2 = some 2 := Eq.trans (by kernel_rfl) (Eq.refl _)
@[go_sem] theorem fc_bd_52 : bldT Tryz.prog 52 = some ([.int .i64 0, .slice none 0 1], [(0, 1), (1, 1)]) := Eq.trans (by kernel_rfl) (Eq.refl _)
@[go_sem] theorem fc_sl_22 : slT Tryz.prog 22 = some 3 := Eq.trans (by kernel_rfl) (Eq.refl _)
@[go_sem] theorem fc_of_43_0 : offT Tryz.prog 43 0 = some 0 := Eq.trans (by kernel_rfl) (Eq.refl _)
@[go_sem] theorem fc_of_43_1 : offT Tryz.prog 43 1 = some 1 := Eq.trans (by kernel_rfl) (Eq.refl _)
@[go_sem] theorem fc_of_43_2 : offT Tryz.prog 43 2 = some 2 := Eq.trans (by kernel_rfl) (Eq.refl _)
@[go_sem] theorem fc_bd_91 : bldT Tryz.prog 91 = some ([.int .i64 0, .int .i64 0, .int .i64 0], [(0, 1), (1, 1), (2, 1)]) := Eq.trans (by kernel_rfl) (Eq.refl _)
@[go_sem] theorem fc_bs_50_1 : bslT Tryz.prog 50 1 = some (3, [.int .i64 0, .int .i64 0, .int .i64 0]) := Eq.trans (by kernel_rfl) (Eq.refl _)
@[go_sem] theorem fc_ap_50_50 : apT Tryz.prog 50 50 = some (3, 24) := Eq.trans (by kernel_rfl) (Eq.refl _)
@[go_sem] theorem fc_sz_50 : sizeT Tryz.prog 50 = some 1 := Eq.trans (by kernel_rfl) (Eq.refl _)
@[go_sem] theorem fc_cv_3_5 : cvT Tryz.prog 3 5 = some .u8 := Eq.trans (by kernel_rfl) (Eq.refl _)
@[go_sem] theorem fc_bs_37_4 : bslT Tryz.prog 37 4 = some (1, [.int .u8 0]) := Eq.trans (by kernel_rfl) (Eq.refl _)
@[go_sem] theorem fc_bs_37_1 : bslT Tryz.prog 37 1 = some (1, [.int .u8 0]) := Eq.trans (by kernel_rfl) (Eq.refl _)
@[go_sem] theorem fc_ap_37_37 : apT Tryz.prog 37 37 = some (1, 1) := Eq.trans (by kernel_rfl) (Eq.refl _)
@[go_sem] theorem fc_ld_91 : ldK Tryz.prog 91 = some (some 3) := Eq.trans (by kernel_rfl) (Eq.refl _)
@[go_sem] theorem fc_zc_91 : zcT Tryz.prog 91 = some [.int .i64 0, .int .i64 0, .int .i64 0] := Eq.trans (by kernel_rfl) (Eq.refl _)
@[go_sem] theorem fc_sz_91 : sizeT Tryz.prog 91 = some 3 := Eq.trans (by kernel_rfl) (Eq.refl _)
@[go_sem] theorem fc_is_92 : isSl Tryz.prog 92 = true := Eq.trans (by kernel_rfl) (Eq.refl _)
@[go_sem] theorem fc_sl_92 : slT Tryz.prog 92 = some 4 := Eq.trans (by kernel_rfl) (Eq.refl _)
@[go_sem] theorem fc_of_97_0 : offT Tryz.prog 97 0 = some 0 := Eq.trans (by kernel_rfl) (Eq.refl _)
@[go_sem] theorem fc_of_97_1 : offT Tryz.prog 97 1 = some 1 := Eq.trans (by kernel_rfl) (Eq.refl _)
@[go_sem] theorem fc_of_94_1 : offT Tryz.prog 94 1 = some 1 := Eq.trans (by kernel_rfl) (Eq.refl _)
@[go_sem] theorem fc_of_97_2 : offT Tryz.prog 97 2 = some 2 := Eq.trans (by kernel_rfl) (Eq.refl _)
@[go_sem] theorem fc_cv_5_3 : cvT Tryz.prog 5 3 = some .i64 := Eq.trans (by kernel_rfl) (Eq.refl _)
@[go_sem] theorem fc_cv_2_101 : cvT Tryz.prog 2 101 = some .u32 := Eq.trans (by kernel_rfl) (Eq.refl _)
@[go_sem] theorem fc_cv_101_21 : cvT Tryz.prog 101 21 = some .i32 := Eq.trans (by kernel_rfl) (Eq.refl _)
@[go_sem] theorem fc_cv_21_2 : cvT Tryz.prog 21 2 = some .i64 := Eq.trans (by kernel_rfl) (Eq.refl _)
@[go_sem] theorem fc_bd_105 : bldT Tryz.prog 105 = some ([.int .i64 0, .int .i64 0], [(0, 1), (1, 1)]) := Eq.trans (by kernel_rfl) (Eq.refl _)
@[go_sem] theorem fc_bs_62_1 : bslT Tryz.prog 62 1 = some (2, [.int .i64 0, .int .i64 0]) := Eq.trans (by kernel_rfl) (Eq.refl _)
@[go_sem] theorem fc_ap_62_62 : apT Tryz.prog 62 62 = some (2, 16) := Eq.trans (by kernel_rfl) (Eq.refl _)
@[go_sem] theorem fc_of_94_0 : offT Tryz.prog 94 0 = some 0 := Eq.trans (by kernel_rfl) (Eq.refl _)
@[go_sem] theorem fc_of_97_3 : offT Tryz.prog 97 3 = some 3 := Eq.trans (by kernel_rfl) (Eq.refl _)
@[go_sem] theorem fc_ni_109 : niT Tryz.prog 109 = true := Eq.trans (by kernel_rfl) (Eq.refl _)
@[go_sem] theorem fc_ni_113 : niT Tryz.prog 113 = true := Eq.trans (by kernel_rfl) (Eq.refl _)
@[go_sem] theorem fc_ni_116 : niT Tryz.prog 116 = true := Eq.trans (by kernel_rfl) (Eq.refl _)
@[go_sem] theorem fc_of_76_0 : offT Tryz.prog 76 0 = some 0 := Eq.trans (by kernel_rfl) (Eq.refl _)
@[go_sem] theorem fc_ld_26 : ldK Tryz.prog 26 = some none := Eq.trans (by kernel_rfl) (Eq.refl _)
@[go_sem] theorem fc_of_76_5 : offT Tryz.prog 76 5 = some 5 := Eq.trans (by kernel_rfl) (Eq.refl _)
@[go_sem] theorem fc_ld_4 : ldK Tryz.prog 4 = some none := Eq.trans (by kernel_rfl) (Eq.refl _)
@[go_sem] theorem fc_of_76_1 : offT Tryz.prog 76 1 = some 1 := Eq.trans (by kernel_rfl) (Eq.refl _)
@[go_sem] theorem fc_of_76_2 : offT Tryz.prog 76 2 = some 2 := Eq.trans (by kernel_rfl) (Eq.refl _)
@[go_sem] theorem fc_of_76_7 : offT Tryz.prog 76 7 = some 7 := Eq.trans (by kernel_rfl) (Eq.refl _)
@[go_sem] theorem fc_sz_71 : sizeT Tryz.prog 71 = some 1 := Eq.trans (by kernel_rfl) (Eq.refl _)
@[go_sem] theorem fc_is_122 : isSl Tryz.prog 122 = true := Eq.trans (by kernel_rfl) (Eq.refl _)
@[go_sem] theorem fc_sz_29 : sizeT Tryz.prog 29 = some 1 := Eq.trans (by kernel_rfl) (Eq.refl _)
@[go_sem] theorem fc_of_86_1 : offT Tryz.prog 86 1 = some 1 := Eq.trans (by kernel_rfl) (Eq.refl _)
@[go_sem] theorem fc_ld_43 : ldK Tryz.prog 43 = some (some 3) := Eq.trans (by kernel_rfl) (Eq.refl _)
@[go_sem] theorem fc_bs_37_0 : bslT Tryz.prog 37 0 = some (1, [.int .u8 0]) := Eq.trans (by kernel_rfl) (Eq.refl _)
@[go_sem] theorem fc_of_81_3 : offT Tryz.prog 81 3 = some 3 := Eq.trans (by kernel_rfl) (Eq.refl _)
@[go_sem] theorem fc_bd_94 : bldT Tryz.prog 94 = some ([.int .i64 0, .int .i64 0, .int .i64 0, .slice none 0 1], [(0, 1), (1, 1), (2, 1), (3, 1)]) := Eq.trans (by kernel_rfl) (Eq.refl _)
@[go_sem] theorem fc_cv_2_5 : cvT Tryz.prog 2 5 = some .u8 := Eq.trans (by kernel_rfl) (Eq.refl _)
@[go_sem] theorem fc_cv_101_5 : cvT Tryz.prog 101 5 = some .u8 := Eq.trans (by kernel_rfl) (Eq.refl _)
@[go_sem] theorem fc_cv_5_2 : cvT Tryz.prog 5 2 = some .i64 := Eq.trans (by kernel_rfl) (Eq.refl _)
@[go_sem] theorem fc_bd_81 : bldT Tryz.prog 81 = some ([.pointer none, .map none, .int .i64 0, .int .i64 0], [(0, 1), (1, 1), (2, 1), (3, 1)]) := Eq.trans (by kernel_rfl) (Eq.refl _)
@[go_sem] theorem fc_bd_86 : bldT Tryz.prog 86 = some ([.nilIface, .int .i64 0], [(0, 1), (1, 1)]) := Eq.trans (by kernel_rfl) (Eq.refl _)
@[go_sem] theorem fc_ip_71 : isPt Tryz.prog 71 = true := Eq.trans (by kernel_rfl) (Eq.refl _)
@[go_sem] theorem fc_un_71 : Tryz.prog.underlying 71 = some (.pointer 86) := Eq.trans (by kernel_rfl) (Eq.refl _)
@[go_sem] theorem fc_sz_86 : sizeT Tryz.prog 86 = some 2 := Eq.trans (by kernel_rfl) (Eq.refl _)
@[go_sem] theorem fc_cv_5_101 : cvT Tryz.prog 5 101 = some .u32 := Eq.trans (by kernel_rfl) (Eq.refl _)
@[go_sem] theorem fc_ld_132 : ldK Tryz.prog 132 = some (some 3) := Eq.trans (by kernel_rfl) (Eq.refl _)
@[go_sem] theorem fc_bd_143 : bldT Tryz.prog 143 = some ([.int .i64 0, .int .i64 0, .slice none 0 1], [(0, 3)]) := Eq.trans (by kernel_rfl) (Eq.refl _)
@[go_sem] theorem fc_zc_132 : zcT Tryz.prog 132 = some [.int .i64 0, .int .i64 0, .slice none 0 1] := Eq.trans (by kernel_rfl) (Eq.refl _)
@[go_sem] theorem fc_bd_132 : bldT Tryz.prog 132 = some ([.int .i64 0, .int .i64 0, .slice none 0 1], [(0, 1), (1, 1), (2, 1)]) := Eq.trans (by kernel_rfl) (Eq.refl _)
@[go_sem] theorem fc_sz_132 : sizeT Tryz.prog 132 = some 3 := Eq.trans (by kernel_rfl) (Eq.refl _)
@[go_sem] theorem fc_bd_145 : bldT Tryz.prog 145 = some ([.int .i64 0, .int .i64 0, .slice none 0 1], [(0, 3)]) := Eq.trans (by kernel_rfl) (Eq.refl _)
@[go_sem] theorem fc_bd_147 : bldT Tryz.prog 147 = some ([.int .i64 0, .int .i64 0, .slice none 0 1], [(0, 3)]) := Eq.trans (by kernel_rfl) (Eq.refl _)
@[go_sem] theorem fc_zc_43 : zcT Tryz.prog 43 = some [.int .i64 0, .int .i64 0, .int .i64 0] := Eq.trans (by kernel_rfl) (Eq.refl _)
@[go_sem] theorem fc_sz_43 : sizeT Tryz.prog 43 = some 3 := Eq.trans (by kernel_rfl) (Eq.refl _)
@[go_sem] theorem fc_bd_152 : bldT Tryz.prog 152 = some ([.int .i64 0, .int .i64 0], [(0, 1), (1, 1)]) := Eq.trans (by kernel_rfl) (Eq.refl _)
@[go_sem] theorem fc_bs_122_1 : bslT Tryz.prog 122 1 = some (2, [.int .i64 0, .int .i64 0]) := Eq.trans (by kernel_rfl) (Eq.refl _)
@[go_sem] theorem fc_ap_122_122 : apT Tryz.prog 122 122 = some (2, 16) := Eq.trans (by kernel_rfl) (Eq.refl _)
@[go_sem] theorem fc_of_132_1 : offT Tryz.prog 132 1 = some 1 := Eq.trans (by kernel_rfl) (Eq.refl _)
@[go_sem] theorem fc_of_132_2 : offT Tryz.prog 132 2 = some 2 := Eq.trans (by kernel_rfl) (Eq.refl _)
@[go_sem] theorem fc_ld_130 : ldK Tryz.prog 130 = some none := Eq.trans (by kernel_rfl) (Eq.refl _)
@[go_sem] theorem fc_bd_155 : bldT Tryz.prog 155 = some ([.int .i64 0, .int .i64 0, .int .i64 0, .int .i64 0], [(0, 1), (1, 1), (2, 1), (3, 1)]) := Eq.trans (by kernel_rfl) (Eq.refl _)
@[go_sem] theorem fc_bs_130_1 : bslT Tryz.prog 130 1 = some (4, [.int .i64 0, .int .i64 0, .int .i64 0, .int .i64 0]) := Eq.trans (by kernel_rfl) (Eq.refl _)
@[go_sem] theorem fc_ap_130_130 : apT Tryz.prog 130 130 = some (4, 32) := Eq.trans (by kernel_rfl) (Eq.refl _)
@[go_sem] theorem fc_sz_130 : sizeT Tryz.prog 130 = some 1 := Eq.trans (by kernel_rfl) (Eq.refl _)
@[go_sem] theorem fc_sz_22 : sizeT Tryz.prog 22 = some 1 := Eq.trans (by kernel_rfl) (Eq.refl _)
@[go_sem] theorem fc_ap_22_22 : apT Tryz.prog 22 22 = some (3, 24) := Eq.trans (by kernel_rfl) (Eq.refl _)
@[go_sem] theorem fc_bd_163 : bldT Tryz.prog 163 = some ([.int .i64 0, .bool false], [(0, 1), (1, 1)]) := Eq.trans (by kernel_rfl) (Eq.refl _)
@[go_sem] theorem fc_bs_164_4 : bslT Tryz.prog 164 4 = some (2, [.int .i64 0, .bool false]) := Eq.trans (by kernel_rfl) (Eq.refl _)
@[go_sem] theorem fc_is_164 : isSl Tryz.prog 164 = true := Eq.trans (by kernel_rfl) (Eq.refl _)
@[go_sem] theorem fc_sl_164 : slT Tryz.prog 164 = some 2 := Eq.trans (by kernel_rfl) (Eq.refl _)
@[go_sem] theorem fc_ld_163 : ldK Tryz.prog 163 = some (some 2) := Eq.trans (by kernel_rfl) (Eq.refl _)
@[go_sem] theorem fc_zc_163 : zcT Tryz.prog 163 = some [.int .i64 0, .bool false] := Eq.trans (by kernel_rfl) (Eq.refl _)
@[go_sem] theorem fc_sz_163 : sizeT Tryz.prog 163 = some 2 := Eq.trans (by kernel_rfl) (Eq.refl _)
@[go_sem] theorem fc_of_163_1 : offT Tryz.prog 163 1 = some 1 := Eq.trans (by kernel_rfl) (Eq.refl _)
@[go_sem] theorem fc_of_163_0 : offT Tryz.prog 163 0 = some 0 := Eq.trans (by kernel_rfl) (Eq.refl _)
@[go_sem] theorem fc_sl_122 : slT Tryz.prog 122 = some 2 := Eq.trans (by kernel_rfl) (Eq.refl _)
@[go_sem] theorem fc_zc_155 : zcT Tryz.prog 155 = some [.int .i64 0, .int .i64 0, .int .i64 0, .int .i64 0] := Eq.trans (by kernel_rfl) (Eq.refl _)
@[go_sem] theorem fc_of_155_2 : offT Tryz.prog 155 2 = some 2 := Eq.trans (by kernel_rfl) (Eq.refl _)
@[go_sem] theorem fc_of_155_1 : offT Tryz.prog 155 1 = some 1 := Eq.trans (by kernel_rfl) (Eq.refl _)
@[go_sem] theorem fc_of_155_3 : offT Tryz.prog 155 3 = some 3 := Eq.trans (by kernel_rfl) (Eq.refl _)
@[go_sem] theorem fc_ld_155 : ldK Tryz.prog 155 = some (some 4) := Eq.trans (by kernel_rfl) (Eq.refl _)
@[go_sem] theorem fc_sz_155 : sizeT Tryz.prog 155 = some 4 := Eq.trans (by kernel_rfl) (Eq.refl _)
@[go_sem] theorem fc_cv_2_21 : cvT Tryz.prog 2 21 = some .i32 := Eq.trans (by kernel_rfl) (Eq.refl _)
@[go_sem] theorem fc_of_143_0 : offT Tryz.prog 143 0 = some 0 := Eq.trans (by kernel_rfl) (Eq.refl _)
@[go_sem] theorem fc_sl_130 : slT Tryz.prog 130 = some 4 := Eq.trans (by kernel_rfl) (Eq.refl _)
@[go_sem] theorem fc_of_155_0 : offT Tryz.prog 155 0 = some 0 := Eq.trans (by kernel_rfl) (Eq.refl _)
@[go_sem] theorem fc_is_130 : isSl Tryz.prog 130 = true := Eq.trans (by kernel_rfl) (Eq.refl _)
@[go_sem] theorem fc_of_132_0 : offT Tryz.prog 132 0 = some 0 := Eq.trans (by kernel_rfl) (Eq.refl _)
@[go_sem] theorem fc_ni_9 : niT Tryz.prog 9 = true := Eq.trans (by kernel_rfl) (Eq.refl _)
@[go_sem] theorem fc_of_145_0 : offT Tryz.prog 145 0 = some 0 := Eq.trans (by kernel_rfl) (Eq.refl _)
@[go_sem] theorem fc_of_147_0 : offT Tryz.prog 147 0 = some 0 := Eq.trans (by kernel_rfl) (Eq.refl _)
@[go_sem] theorem fc_cv_3_197 : cvT Tryz.prog 3 197 = some .u64 := Eq.trans (by kernel_rfl) (Eq.refl _)
@[go_sem] theorem fc_cv_2_197 : cvT Tryz.prog 2 197 = some .u64 := Eq.trans (by kernel_rfl) (Eq.refl _)
end Go.Proofs.YtddgcakiceodgaaGreat.EV
namespace Go.Proofs.YtddgcakiceodgaaGreat.EV
open Go Go.Proofs Go.RowKit
set_option maxRecDepth 100000 in
theorem awake_run : okT ((ev Tryz.prog 4000).F 7 [] ⟨0, .nil⟩) = true := by decide +kernel
set_option maxRecDepth 100000 in
theorem no_gor : (Tryz.prog.funcs.toList.all fun fn => !(fn.name == "runtime.NumGoroutine")) = true := by decide +kernel
noncomputable def addT (args : List Value) (h : Heap) : VH := match args with
 | [.int .u64 x, .int .u64 y, .int .u64 c] => if 0 ≤ x ∧ 0 ≤ y ∧ 0 ≤ c ∧ c ≤ 1 then some (.tuple ⟨[.int .u64 ((x + y + c) % 18446744073709551616), .int .u64 ((x + y + c) / 18446744073709551616)]⟩, h) else none
 | _ => none
noncomputable def O0 : Orc := fun f => if f = 7 then some closedT else if f = 158 then some addT else none
theorem pair_flat (a b : Int) {i : Nat} {x : Value} (h : [Value.int .u64 a, Value.int .u64 b][i]? = some x) : flat1 x = true := by
 match i, h with
 | 0, h => cases h; rfl
 | 1, h => cases h; rfl
theorem addT_sound {args : List Value} {h : Heap} {v : Value} {h' : Heap} (hg : addT args h = some (v, h')) : SFX Tryz.prog 158 args h v h' := by
 unfold addT at hg
 split at hg
 ·rename_i x y c
  split at hg
  ·rename_i hr
   cases hg
   refine ⟨fun u hu => ?_, fun b e => (by cases e), rfl, _, fun args' w ha => ?_, fun M => .tuple _ _ rfl fun i x' y' hx hy => ?_⟩
   ·simp only [List.mem_cons, List.not_mem_nil, or_false] at hu
    rcases hu with rfl | rfl | rfl <;> exact ⟨_, _, rfl⟩
   ·have e : args' = #[.int .u64 x, .int .u64 y, .int .u64 c] := by cases args'; simp only at ha; subst ha; rfl
    subst e
    rw [run_callFunc_extern Tryz.func158 (by kernel_rfl) (by kernel_rfl) (by kernel_rfl) (e := add64Entry) (by kernel_rfl), run_add64 x y c hr.1 hr.2.1 hr.2.2.1 hr.2.2.2]
    rfl
   ·have e : x' = y' := Option.some.inj (hx.symm.trans hy)
    subst e
    exact VR.of_flat1 _ (pair_flat _ _ hx)
  ·cases hg
 ·cases hg
theorem O0_sound : SO Tryz.prog O0 := fun f g h args h0 v h' e => by
 unfold O0 at h
 split at h
 ·rename_i q
  subst q
  cases h
  refine .inl (closed_sound (fun fn hf e => ?_) (by kernel_rfl) awake_run e)
  have := List.all_eq_true.1 no_gor fn hf
  rw [e] at this
  simp at this
 ·split at h
  ·rename_i q
   subst q
   cases h
   exact .inr (addT_sound e)
  ·cases h
theorem awake_ev (h : Heap) : EF Tryz.prog O0 7 [] h = some (.bool true, h) := by
 rw [EF_eq]
 unfold stepO
 have : O0 7 = some closedT := by kernel_rfl
 rw [this]
 rfl
theorem add64_ev (x y c : Int) (h : Heap) (hx : 0 ≤ x) (hy : 0 ≤ y) (hc0 : 0 ≤ c) (hc : c ≤ 1) : EF Tryz.prog O0 158 [.int .u64 x, .int .u64 y, .int .u64 c] h = some (.tuple ⟨[.int .u64 ((x + y + c) % 18446744073709551616), .int .u64 ((x + y + c) / 18446744073709551616)]⟩, h) := by
 rw [EF_eq]
 unfold stepO
 have : O0 158 = some addT := by kernel_rfl
 rw [this]
 show (if 0 ≤ x ∧ 0 ≤ y ∧ 0 ≤ c ∧ c ≤ 1 then _ else none) = _
 rw [if_pos ⟨hx, hy, hc0, hc⟩]
end Go.Proofs.YtddgcakiceodgaaGreat.EV

namespace Go.Proofs.YtddgcakiceodgaaGreat.EV
open Go Go.Proofs
set_option linter.unusedVariables false
set_option linter.unusedSimpArgs false
set_option maxRecDepth 100000

structure Item where
 id : Int
 w : Int
 lag : Int
deriving DecidableEq
noncomputable def itemE (x : Item) : List Value := [.int .i64 x.id, .int .i64 x.w, .int .i64 x.lag]
@[go_sem] theorem itemE_len (x : Item) : (itemE x).length = 3 := (rfl)
@[go_sem] theorem itemE_scal (x : Item) : (itemE x).all scal = true := (rfl)
@[go_sem] theorem itemE_0 (x : Item) : (itemE x)[0]? = some (.int .i64 x.id) := (rfl)
@[go_sem] theorem itemE_1 (x : Item) : (itemE x)[1]? = some (.int .i64 x.w) := (rfl)
@[go_sem] theorem itemE_2 (x : Item) : (itemE x)[2]? = some (.int .i64 x.lag) := (rfl)
noncomputable def wgood (w : Int) : Bool := decide (1 ≤ w) && decide (w ≤ 20)
noncomputable def imay (x : Item) : Bool := decide (0 ≤ x.id) && (decide (x.id ≤ 1073741824) && (wgood x.w && (decide (-1125899906842624 ≤ x.lag) && decide (x.lag ≤ 1125899906842624))))

theorem wGood_ev (a : Int) (h : Heap) : EF Tryz.prog O0 95 [.int .i64 a] h = some (.bool (wgood a), h) := by
 have : WPo (EF Tryz.prog O0 95 [.int .i64 a] h) fun q => q = (.bool (wgood a), h) := by
  rw [EF_body (O := O0) (by kernel_rfl) Tryz.func95 rfl (rs := [.tmp 2]) rfl (bad := []) (by kernel_rfl) _ _ (m := 9) rfl]
  simp (disch := first|exact dis|fail) only [go_sem, simprocAttr, ↓EU_rg]
  repeat' (((repeat refine WPo_ob ?_); (first | refine WPo_cond (fun hb => ?_) (fun hb => ?_) | refine WPo_gard (fun hb => ?_) (fun hb => ?_) | refine WPo_gardT (fun hb => ?_) (fun hb => ?_)) <;> (try simp only [Bool.not_eq_true', Bool.not_eq_false'] at hb)) <;> (simp (disch := first|exact dis|fail) only [go_sem, simprocAttr, ↓EU_rg, hb]))
  all_goals simp [wgood, *]
 obtain ⟨q, e, rfl⟩ := this
 exact e
theorem may_ev (x : Item) (h : Heap) : Pu (EF Tryz.prog O0 97 [.agg ⟨itemE x⟩] h) h (.bool (imay x)) := by
 unfold Pu itemE
 rw [EF_body (O := O0) (by kernel_rfl) Tryz.func97 rfl (rs := [.tmp 2]) rfl (bad := []) (by kernel_rfl) _ _ (m := 26) rfl]
 simp (disch := first|exact dis|fail) only [go_sem, simprocAttr, ↓EU_rg, wGood_ev]
 repeat' (((repeat refine WPo_ob ?_); (first | refine WPo_cond (fun hb => ?_) (fun hb => ?_) | refine WPo_gard (fun hb => ?_) (fun hb => ?_) | refine WPo_gardT (fun hb => ?_) (fun hb => ?_)) <;> (try simp only [Bool.not_eq_true', Bool.not_eq_false'] at hb)) <;> (simp (disch := first|exact dis|fail) only [go_sem, simprocAttr, ↓EU_rg, hb, wGood_ev]))
 all_goals (refine ⟨?_, by repeat (first | exact Ext.refl _ | assumption | refine Ext.push ?_ _ | refine Ext.set ?_ _ _ (by first | omega | (simp only [next_push, next_set]; omega)))⟩; simp [imay, *])
theorem find1_ev (x : Item) (id : Int) (b : Nat) (h : Heap) (hb : b < h.next) (hx : rdc1 (h.get b) 0 = some (.int .i64 id)) : Pu (EF Tryz.prog O0 102 [.agg ⟨itemE x⟩, ptr b 0] h) h (.bool (decide (x.id = id))) := by
 unfold Pu itemE
 rw [EF_body (O := O0) (by kernel_rfl) Tryz.func102 rfl (rs := [.tmp 3]) rfl (bad := []) (by kernel_rfl) _ _ (m := 8) rfl]
 simp (disch := first|exact dis|fail) only [go_sem, simprocAttr, ↓EU_rg, hx]
 exact ⟨trivial, by repeat (first | exact Ext.refl _ | assumption | refine Ext.push ?_ _ | refine Ext.set ?_ _ _ (by first | omega | (simp only [next_push, next_set]; omega)))⟩
noncomputable def idx {α : Type} (p : α → Bool) (l : List α) : Int := match l.findIdx? p with
 | some i => i
 | none => -1
theorem idx_hit {α : Type} {p : α → Bool} {l : List α} {i : Nat} {x : α} (hx : l[i]? = some x) (hp : p x = true) (h : ∀ j y, j < i → l[j]? = some y → p y = false) : idx p l = i := by
 unfold idx
 have : l.findIdx? p = some i := by
  rw [List.findIdx?_eq_some_iff_getElem]
  obtain ⟨h1, h2⟩ := List.getElem?_eq_some_iff.1 hx
  refine ⟨h1, by rw [h2]; exact hp, fun j hj => ?_⟩
  simp [h j _ hj (List.getElem?_eq_getElem (by omega))]
 rw [this]
theorem idx_miss {α : Type} {p : α → Bool} {l : List α} (h : ∀ j y, j < l.length → l[j]? = some y → p y = false) : idx p l = -1 := by
 unfold idx
 have : l.findIdx? p = none := by
  rw [List.findIdx?_eq_none_iff]
  intro x hx
  obtain ⟨i, hi⟩ := List.mem_iff_getElem?.1 hx
  exact h i x (List.getElem?_eq_some_iff.1 hi).1 hi
 rw [this]
theorem indexFunc_ev (l : List Item) (s : Value) (p : Item → Bool) (g : FuncId) (y : List Value) (h : Heap) (hs : SL itemE 3 h s l) (hl : l.length < 900000)
  (hp : ∀ x ∈ l, ∀ h', Ext h h' → Pu (EF Tryz.prog O0 g (.agg ⟨itemE x⟩ :: y) h') h' (.bool (p x))) :
  Pu (EF Tryz.prog O0 101 [s, .func (.func g) ⟨[]⟩ ⟨y⟩] h) h (.int .i64 (idx p l)) := by
 unfold Pu
 rw [EF_body (O := O0) (by kernel_rfl) Tryz.func101 rfl (rs := [.tmp 4]) rfl (bad := []) (by kernel_rfl) _ _ (m := 19) rfl]
 obtain ⟨a, c, hv⟩ := hs.val
 subst hv
 simp (disch := first|exact dis|fail) only [go_sem, simprocAttr, ↓EU_rg]
 repeat refine WPo_ob ?_
 refine (LP_rule (fun m st => ∃ i tm h1, st = ⟨tm, h1, []⟩ ∧ m = l.length - i ∧ i ≤ l.length ∧ Fr.get tm 0 = .slice a l.length c ∧ Fr.get tm 1 = .func (.func g) ⟨[]⟩ ⟨y⟩ ∧ Fr.get tm 7 = .int .i64 l.length ∧ Fr.get tm 8 = .int .i64 i ∧ Ext h h1 ∧ ∀ j y, j < i → l[j]? = some y → p y = false)
  (fun q => ∃ tm h1, q.2 = ⟨tm, h1, []⟩ ∧ Ext h h1 ∧ ((q.1 = .exit 0 ∧ idx p l = -1) ∨ (q.1 = .ret ∧ Fr.get tm 4 = .int .i64 (idx p l)))) ?_ l.length _ _ ?_ ?_).mono ?_
 ·rintro m _ ⟨i, tm, h1, rfl, rfl, hi, g0, g1, g7, g8, x1, hn⟩
  simp (disch := first|exact dis|fail) only [go_sem, simprocAttr, ↓EU_rg, g0, g1, g7, g8]
  ((repeat refine WPo_ob ?_); (first | refine WPo_cond (fun hb => ?_) (fun hb => ?_) | refine WPo_gard (fun hb => ?_) (fun hb => ?_) | refine WPo_gardT (fun hb => ?_) (fun hb => ?_)) <;> (try simp only [Bool.not_eq_true', Bool.not_eq_false'] at hb))
  ·simp only [decide_eq_true_eq] at hb
   have hi' : i < l.length := by omega
   obtain ⟨x, hx⟩ : ∃ x, l[i]? = some x := ⟨_, List.getElem?_eq_getElem hi'⟩
   obtain ⟨b, o, c', e, hb', hr, _⟩ := (hs.ext x1).at hx rfl
   cases e
   simp (disch := first|exact dis|fail) only [go_sem, simprocAttr, ↓EU_rg, g0, g1, g7, g8, hr]
   repeat refine WPo_ob ?_
   refine (hp x (List.mem_of_getElem? hx) h1 x1).mono ?_
   rintro ⟨v, h2⟩ ⟨rfl, x2⟩
   simp (disch := first|exact dis|fail) only [go_sem, simprocAttr, ↓EU_rg, g0, g1, g7, g8, hr]
   ((repeat refine WPo_ob ?_); (first | refine WPo_cond (fun hq => ?_) (fun hq => ?_) | refine WPo_gard (fun hq => ?_) (fun hq => ?_) | refine WPo_gardT (fun hq => ?_) (fun hq => ?_)) <;> (try simp only [Bool.not_eq_true', Bool.not_eq_false'] at hq))
   ·simp (disch := first|exact dis|fail) only [go_sem, simprocAttr, ↓EU_rg, g0, g1, g7, g8, hr]
    exact ⟨_, _, rfl, x1.trans x2, .inr ⟨trivial, by simp (disch := first|exact dis|fail) only [go_sem, simprocAttr, ↓EU_rg]; rw [idx_hit hx hq hn]⟩⟩
   ·simp (disch := first|exact dis|fail) only [go_sem, simprocAttr, ↓EU_rg, g0, g1, g7, g8, hr]
    refine ⟨_, by omega, i + 1, _, _, rfl, rfl, by omega, by simp (disch := first|exact dis|fail) only [go_sem, simprocAttr, ↓EU_rg, g0], by simp (disch := first|exact dis|fail) only [go_sem, simprocAttr, ↓EU_rg, g1], by simp (disch := first|exact dis|fail) only [go_sem, simprocAttr, ↓EU_rg, g7], by simp (disch := first|exact dis|fail) only [go_sem, simprocAttr, ↓EU_rg], x1.trans x2, fun j y hj hy => ?_⟩
    rcases Nat.lt_succ_iff_lt_or_eq.1 hj with hj | rfl
    ·exact hn j y hj hy
    ·rw [hx] at hy; cases hy; exact hq
  ·simp only [decide_eq_false_iff_not] at hb
   simp (disch := first|exact dis|fail) only [go_sem, simprocAttr, ↓EU_rg]
   exact ⟨_, _, rfl, x1, .inl ⟨trivial, idx_miss fun j y hj => hn j y (by omega)⟩⟩
 ·exact ⟨0, _, _, rfl, rfl, by omega, by simp (disch := first|exact dis|fail) only [go_sem, simprocAttr, ↓EU_rg], by simp (disch := first|exact dis|fail) only [go_sem, simprocAttr, ↓EU_rg], by simp (disch := first|exact dis|fail) only [go_sem, simprocAttr, ↓EU_rg], by simp (disch := first|exact dis|fail) only [go_sem, simprocAttr, ↓EU_rg]; all_goals rfl, Ext.refl _, fun j y hj => absurd hj (Nat.not_lt_zero _)⟩
 ·omega
 ·rintro ⟨q, _⟩ ⟨tm, h1, rfl, x1, ⟨rfl, e⟩ | ⟨rfl, e⟩⟩
  ·simp (disch := first|exact dis|fail) only [go_sem, simprocAttr, ↓EU_rg]
   rw [e]
   exact ⟨rfl, x1⟩
  ·simp (disch := first|exact dis|fail) only [go_sem, simprocAttr, ↓EU_rg, e]
   exact ⟨trivial, x1⟩
noncomputable def formV (cur : Int) (s : Value) : Value := .agg ⟨[.int .i64 cur, s]⟩
noncomputable def byId (id : Int) (x : Item) : Bool := decide (x.id = id)
theorem find_ev (cur : Int) (l : List Item) (s : Value) (id : Int) (h : Heap) (hs : SL itemE 3 h s l) (hl : l.length < 900000) :
  Pu (EF Tryz.prog O0 96 [formV cur s, .int .i64 id] h) h (.int .i64 (idx (byId id) l)) := by
 unfold Pu formV
 rw [EF_body (O := O0) (by kernel_rfl) Tryz.func96 rfl (rs := [.tmp 4]) rfl (bad := []) (by kernel_rfl) _ _ (m := 9) rfl]
 obtain ⟨a, c, hv⟩ := hs.val
 subst hv
 simp (disch := first|exact dis|fail) only [go_sem, simprocAttr, ↓EU_rg]
 repeat refine WPo_ob ?_
 refine (indexFunc_ev l _ (byId id) _ _ _ (hs.ext (((Ext.refl _).push _).push _)) hl fun x _ h' e => find1_ev x id _ h' ?_ ?_).mono ?_
 ·have := e.le; simp only [next_push] at this; omega
 ·simp (disch := first|exact dis|fail) only [go_sem, simprocAttr, ↓EU_rg, e.old]
 ·rintro ⟨v, h2⟩ ⟨rfl, x2⟩
  simp (disch := first|exact dis|fail) only [go_sem, simprocAttr, ↓EU_rg]
  exact ⟨trivial, (((Ext.refl _).push _).push _).trans x2⟩

noncomputable def ordOk : Option Item → List Item → Bool
 | _, [] => true
 | none, x :: l => imay x && ordOk (some x) l
 | some y, x :: l => imay x && (decide (y.id < x.id) && ordOk (some x) l)
noncomputable def lagOk (x : Item) : Bool := decide (0 ≤ x.lag)
noncomputable def goodF (cur : Int) (l : List Item) : Bool := decide (l.length ≤ 64) && ((decide (cur = -1) || l.any (byId cur)) && (ordOk none l && (decide (l.length = 0) || l.any lagOk)))
theorem idx_neg {α : Type} {p : α → Bool} {l : List α} : decide (idx p l < 0) = !l.any p := by
 cases h : l.any p with
 | true =>
  obtain ⟨x, hx, hp⟩ := List.any_eq_true.1 h
  unfold idx
  cases hf : l.findIdx? p with
  | none => rw [List.findIdx?_eq_none_iff] at hf; rw [hf x hx] at hp; cases hp
  | some i => simp
 | false =>
  rw [idx_miss fun j y _ hy => ?_]
  ·rfl
  ·have := List.any_eq_false.1 h y (List.mem_of_getElem? hy)
   simpa using this
noncomputable def prevAt (l : List Item) (i : Nat) : Option Item := if i = 0 then none else l[i - 1]?
theorem drop_at {α : Type} {l : List α} {i : Nat} {x : α} (h : l[i]? = some x) : l.drop i = x :: l.drop (i + 1) := by
 obtain ⟨h1, h2⟩ := List.getElem?_eq_some_iff.1 h
 rw [List.drop_eq_getElem_cons h1, h2]
theorem take_any {α : Type} {l : List α} {i : Nat} {x : α} (p : α → Bool) (h : l[i]? = some x) : (l.take (i + 1)).any p = ((l.take i).any p || p x) := by
 rw [List.take_add_one, h]
 simp
set_option maxHeartbeats 1000000 in
theorem good_ev (cur : Int) (l : List Item) (s : Value) (h : Heap) (hs : SL itemE 3 h s l) (hl : l.length < 900000) :
  Pu (EF Tryz.prog O0 87 [formV cur s] h) h (.bool (goodF cur l)) := by
 have hF := find_ev cur l s cur (h.push (.cells [.int .i64 cur, s] 0)) (hs.ext ((Ext.refl h).push _)) hl
 have hv0 := hs.val
 unfold Pu
 rw [EF_body (O := O0) (by kernel_rfl) Tryz.func87 rfl (rs := [.tmp 2]) rfl (bad := []) (by kernel_rfl) _ _ (m := 61) rfl]
 obtain ⟨a, c, hv⟩ := hs.val
 subst hv
 unfold formV at hF ⊢
 simp (disch := first|exact dis|fail) only [go_sem, simprocAttr]
 (first | rw [EU_region] | rw [EU_draw _ _ rfl]); simp (disch := first|exact dis|fail) only [go_sem, simprocAttr]
 repeat refine WPo_ob ?_
 refine WPo.mono (Q := fun q => ∃ tm h1, q = (.normal, ⟨tm, h1, []⟩) ∧ Ext (h.push (.cells [.int .i64 cur, .slice a l.length c] 0)) h1 ∧ Fr.get tm 1 = ptr h.next 0 ∧ Fr.get tm 21 = .bool (decide (64 < (l.length : Int)) || (!decide (cur = -1) && !l.any (byId cur)))) ?_ ?_
 ·simp (disch := first|exact dis|fail) only [go_sem, simprocAttr, ↓EU_rg]
  repeat' (((repeat refine WPo_ob ?_); (first | refine WPo_cond (fun hb => ?_) (fun hb => ?_) | refine WPo_gard (fun hb => ?_) (fun hb => ?_) | refine WPo_gardT (fun hb => ?_) (fun hb => ?_)) <;> (try simp only [Bool.not_eq_true', Bool.not_eq_false'] at hb)) <;> (simp (disch := first|exact dis|fail) only [go_sem, simprocAttr, ↓EU_rg, hb]))
  ·repeat refine WPo_ob ?_
   refine hF.mono ?_
   rintro ⟨v, h1⟩ ⟨rfl, x1⟩
   simp (disch := first|exact dis|fail) only [go_sem, simprocAttr, ↓EU_rg, idx_neg, hb]
   exact ⟨_, _, rfl, x1, by simp (disch := first|exact dis|fail) only [go_sem, simprocAttr, ↓EU_rg], by simp (disch := first|exact dis|fail) only [go_sem, simprocAttr, ↓EU_rg]; simp [*]⟩
  ·exact ⟨_, _, rfl, Ext.refl _, by simp (disch := first|exact dis|fail) only [go_sem, simprocAttr, ↓EU_rg], by simp (disch := first|exact dis|fail) only [go_sem, simprocAttr, ↓EU_rg]; simp [*]⟩
  ·exact ⟨_, _, rfl, Ext.refl _, by simp (disch := first|exact dis|fail) only [go_sem, simprocAttr, ↓EU_rg], by simp (disch := first|exact dis|fail) only [go_sem, simprocAttr, ↓EU_rg]; simp [*]⟩
 ·rintro _ ⟨tm, h1, rfl, x1, g1, g21⟩
  simp (disch := first|exact dis|fail) only [go_sem, simprocAttr, g1, g21]
  ((repeat refine WPo_ob ?_); (first | refine WPo_cond (fun b1 => ?_) (fun b1 => ?_) | refine WPo_gard (fun b1 => ?_) (fun b1 => ?_) | refine WPo_gardT (fun b1 => ?_) (fun b1 => ?_)) <;> (try simp only [Bool.not_eq_true', Bool.not_eq_false'] at b1))
  ·simp (disch := first|exact dis|fail) only [go_sem, simprocAttr, ↓EU_rg, b1]
   refine ⟨?_, (Ext.push (Ext.refl _) _).trans x1⟩
   congr 1
   unfold goodF
   simp only [Bool.or_eq_true, decide_eq_true_eq, Bool.and_eq_true, Bool.not_eq_true', decide_eq_false_iff_not] at b1
   rcases b1 with b1 | ⟨b1, b2⟩
   ·rw [decide_eq_false (by omega : ¬ l.length ≤ 64)]; rfl
   ·rw [decide_eq_false b1, b2]; simp
  ·simp only [Bool.or_eq_false_iff, decide_eq_false_iff_not, Bool.and_eq_false_iff, Bool.not_eq_false', decide_eq_true_eq] at b1
   have hF1 : h1.get h.next = .cells [.int .i64 cur, .slice a l.length c] 0 := by simp (disch := first|exact dis|fail) only [go_sem, simprocAttr, ↓EU_rg, x1.old]
   have hn1 : h.next < h1.next := by have := x1.le; rw [next_push] at this; omega
   have hs1 := (hs.ext ((Ext.refl h).push (.cells [.int .i64 cur, .slice a l.length c] 0))).ext x1
   have hx1 := ((Ext.refl h).push (.cells [.int .i64 cur, .slice a l.length c] 0)).trans x1
   have hg : goodF cur l = (ordOk none l && (decide (l.length = 0) || l.any lagOk)) := by
    unfold goodF
    rw [decide_eq_true (by omega : l.length ≤ 64)]
    rcases b1.2 with q | q <;> simp [q]
   rw [hg]
   clear hF hg g21 x1
   simp (disch := first|exact dis|fail) only [go_sem, simprocAttr, ↓EU_rg, g1, hF1]
   repeat refine WPo_ob ?_
   refine (LP_rule (fun m st => ∃ i tm h2, st = ⟨tm, h2, []⟩ ∧ m = l.length - i ∧ i ≤ l.length ∧ Fr.get tm 1 = ptr h.next 0 ∧ Fr.get tm 27 = .slice a l.length c ∧ Fr.get tm 28 = .int .i64 l.length ∧ Fr.get tm 29 = .int .i64 i ∧ Fr.get tm 3 = .bool (decide ((l.length : Int) = 0) || (l.take i).any lagOk) ∧ Ext h1 h2 ∧ ordOk none l = ordOk (prevAt l i) (l.drop i))
    (fun q => ∃ tm h2, q.2 = ⟨tm, h2, []⟩ ∧ Ext h1 h2 ∧ ((q.1 = .exit 0 ∧ ordOk none l = true ∧ Fr.get tm 3 = .bool (decide ((l.length : Int) = 0) || l.any lagOk)) ∨ (q.1 = .ret ∧ ordOk none l = false ∧ Fr.get tm 2 = .bool false))) ?_ l.length _ _ ?_ ?_).mono ?_
   ·clear g1
    rintro m _ ⟨i, tm, h2, rfl, rfl, hi, g1, g27, g28, g29, g3, x2, ho⟩
    simp (disch := first|exact dis|fail) only [go_sem, simprocAttr, g1, g27, g28, g29, g3]
    (first | rw [EU_region] | rw [EU_draw _ _ rfl]); simp (disch := first|exact dis|fail) only [go_sem, simprocAttr, g1, g27, g28, g29, g3]
    ((repeat refine WPo_ob ?_); (first | refine WPo_cond (fun b2 => ?_) (fun b2 => ?_) | refine WPo_gard (fun b2 => ?_) (fun b2 => ?_) | refine WPo_gardT (fun b2 => ?_) (fun b2 => ?_)) <;> (try simp only [Bool.not_eq_true', Bool.not_eq_false'] at b2))
    ·simp only [decide_eq_true_eq] at b2
     have hi' : i < l.length := by omega
     obtain ⟨x, hx⟩ : ∃ x, l[i]? = some x := ⟨_, List.getElem?_eq_getElem hi'⟩
     obtain ⟨b, o, c', e, hb', hr, _⟩ := (hs1.ext x2).at hx rfl
     cases e
     have hF2 := (x2.old _ hn1).trans hF1
     have hn2 := x2.le
     simp (disch := first|exact dis|fail) only [go_sem, simprocAttr, g1, g27, g28, g29, g3, hr]
     (first | rw [EU_region] | rw [EU_draw _ _ rfl]); simp (disch := first|exact dis|fail) only [go_sem, simprocAttr, g1, g27, g28, g29, g3, hr]
     rw [EU_draw _ _ rfl]
     repeat refine WPo_ob ?_
     refine WPo.mono (Q := fun st => ∃ tm' h3, st = ⟨tm', h3, []⟩ ∧ Ext (h2.push (.cells (itemE x) 0)) h3 ∧ Fr.get tm' 1 = ptr h.next 0 ∧ Fr.get tm' 5 = ptr h2.next 0 ∧ Fr.get tm' 27 = .slice (some ⟨b, o, none⟩) l.length c ∧ Fr.get tm' 28 = .int .i64 l.length ∧ Fr.get tm' 29 = .int .i64 i ∧ Fr.get tm' 3 = .bool (decide ((l.length : Int) = 0) || (l.take i).any lagOk) ∧
      Fr.get tm' 52 = .bool (!imay x || (match prevAt l i with | none => false | some y => decide (x.id ≤ y.id)))) ?_ ?_
     ·simp (disch := first|exact dis|fail) only [go_sem, simprocAttr, ↓EU_rg]
      repeat refine WPo_ob ?_
      refine (may_ev x _).bind fun h3 x3 => ?_
      have hn3 := x3.le
      simp only [next_push] at hn3
      have hF3 : h3.get h.next = .cells [.int .i64 cur, .slice (some ⟨b, o, none⟩) l.length c] 0 := by simp (disch := first|exact dis|fail) only [go_sem, simprocAttr, ↓EU_rg, x3.old, hF2]
      have hX3 : h3.get h2.next = .cells (itemE x) 0 := by simp (disch := first|exact dis|fail) only [go_sem, simprocAttr, ↓EU_rg, x3.old]
      have hr3 : rdc (h3.get b) (o + i * 3) 3 = some (itemE x) := by simp (disch := first|exact dis|fail) only [go_sem, simprocAttr, ↓EU_rg, x3.old, hr]
      simp (disch := first|exact dis|fail) only [go_sem, simprocAttr, ↓EU_rg, g1, g27, g28, g29, g3, hr, hF3, hX3]
      have hx13 : Ext (h2.push (.cells (itemE x) 0)) h3 := x3
      ((repeat refine WPo_ob ?_); (first | refine WPo_cond (fun b3 => ?_) (fun b3 => ?_) | refine WPo_gard (fun b3 => ?_) (fun b3 => ?_) | refine WPo_gardT (fun b3 => ?_) (fun b3 => ?_)) <;> (try simp only [Bool.not_eq_true', Bool.not_eq_false'] at b3))
      ·simp (disch := first|exact dis|fail) only [go_sem, simprocAttr, ↓EU_rg, b3, g1, g27, g28, g29, g3, hF3, hX3]
       ((repeat refine WPo_ob ?_); (first | refine WPo_cond (fun b4 => ?_) (fun b4 => ?_) | refine WPo_gard (fun b4 => ?_) (fun b4 => ?_) | refine WPo_gardT (fun b4 => ?_) (fun b4 => ?_)) <;> (try simp only [Bool.not_eq_true', Bool.not_eq_false'] at b4))
       ·have b4' := b4
        simp only [decide_eq_true_eq] at b4'
        obtain ⟨y, hy⟩ : ∃ y, l[i - 1]? = some y := ⟨_, List.getElem?_eq_getElem (by omega)⟩
        obtain ⟨_, _, _, e, _, _, hq⟩ := (hs1.ext ((x2.push _).trans x3)).at hy rfl
        cases e
        have hq0 := hq 0 _ rfl
        rw [add_z] at hq0
        simp (disch := first|exact dis|fail) only [go_sem, simprocAttr, ↓EU_rg, b4, g1, g27, g28, g29, g3, hF3, hX3, hq0]
        refine ⟨_, _, rfl, x3, by simp (disch := first|exact dis|fail) only [go_sem, simprocAttr, ↓EU_rg, g1], by simp (disch := first|exact dis|fail) only [go_sem, simprocAttr, ↓EU_rg], by simp (disch := first|exact dis|fail) only [go_sem, simprocAttr, ↓EU_rg, g27], by simp (disch := first|exact dis|fail) only [go_sem, simprocAttr, ↓EU_rg, g28], by simp (disch := first|exact dis|fail) only [go_sem, simprocAttr, ↓EU_rg, g29], by simp (disch := first|exact dis|fail) only [go_sem, simprocAttr, ↓EU_rg, g3], ?_⟩
        have : prevAt l i = some y := by unfold prevAt; rw [if_neg (by omega), hy]
        rw [this]
        simp (disch := first|exact dis|fail) only [go_sem, simprocAttr, ↓EU_rg]
        rfl
       ·have b4' := b4
        simp only [decide_eq_false_iff_not] at b4'
        simp (disch := first|exact dis|fail) only [go_sem, simprocAttr, ↓EU_rg, b4, g1, g27, g28, g29, g3, hF3, hX3]
        refine ⟨_, _, rfl, x3, by simp (disch := first|exact dis|fail) only [go_sem, simprocAttr, ↓EU_rg, g1], by simp (disch := first|exact dis|fail) only [go_sem, simprocAttr, ↓EU_rg], by simp (disch := first|exact dis|fail) only [go_sem, simprocAttr, ↓EU_rg, g27], by simp (disch := first|exact dis|fail) only [go_sem, simprocAttr, ↓EU_rg, g28], by simp (disch := first|exact dis|fail) only [go_sem, simprocAttr, ↓EU_rg, g29], by simp (disch := first|exact dis|fail) only [go_sem, simprocAttr, ↓EU_rg, g3], ?_⟩
        have : prevAt l i = none := by unfold prevAt; rw [if_pos (by omega)]
        rw [this]
        simp (disch := first|exact dis|fail) only [go_sem, simprocAttr, ↓EU_rg]
        rfl
      ·simp (disch := first|exact dis|fail) only [go_sem, simprocAttr, ↓EU_rg, b3, g1, g27, g28, g29, g3, hF3, hX3]
       refine ⟨_, _, rfl, x3, by simp (disch := first|exact dis|fail) only [go_sem, simprocAttr, ↓EU_rg, g1], by simp (disch := first|exact dis|fail) only [go_sem, simprocAttr, ↓EU_rg], by simp (disch := first|exact dis|fail) only [go_sem, simprocAttr, ↓EU_rg, g27], by simp (disch := first|exact dis|fail) only [go_sem, simprocAttr, ↓EU_rg, g28], by simp (disch := first|exact dis|fail) only [go_sem, simprocAttr, ↓EU_rg, g29], by simp (disch := first|exact dis|fail) only [go_sem, simprocAttr, ↓EU_rg, g3], ?_⟩
       simp (disch := first|exact dis|fail) only [go_sem, simprocAttr, ↓EU_rg]
       rfl
     ·rintro _ ⟨tm', h3, rfl, x3, k1, k5, k27, k28, k29, k3, k52⟩
      have hn3 := x3.le
      simp only [next_push] at hn3
      have hX3 : h3.get h2.next = .cells (itemE x) 0 := by simp (disch := first|exact dis|fail) only [go_sem, simprocAttr, ↓EU_rg, x3.old]
      have hx13 : Ext h1 h3 := (x2.push _).trans x3
      simp (disch := first|exact dis|fail) only [go_sem, simprocAttr, k1, k5, k27, k28, k29, k3, k52]
      ((repeat refine WPo_ob ?_); (first | refine WPo_cond (fun b5 => ?_) (fun b5 => ?_) | refine WPo_gard (fun b5 => ?_) (fun b5 => ?_) | refine WPo_gardT (fun b5 => ?_) (fun b5 => ?_)) <;> (try simp only [Bool.not_eq_true', Bool.not_eq_false'] at b5))
      ·simp (disch := first|exact dis|fail) only [go_sem, simprocAttr, ↓EU_rg, k1, k5, k27, k28, k29, k3, k52, b5]
       refine ⟨_, _, rfl, hx13, .inr ⟨trivial, ?_, by simp (disch := first|exact dis|fail) only [go_sem, simprocAttr, ↓EU_rg]⟩⟩
       rw [ho, drop_at hx]
       cases hp : prevAt l i with
       | none => rw [hp] at b5; simp only [Bool.or_false, Bool.not_eq_true'] at b5; simp [ordOk, b5]
       | some y =>
        rw [hp] at b5
        simp only [Bool.or_eq_true, Bool.not_eq_true', decide_eq_true_eq] at b5
        rcases b5 with b5 | b5
        ·simp [ordOk, b5]
        ·simp only [ordOk]; rw [decide_eq_false (by omega : ¬ y.id < x.id)]; simp
      ·have ho' : ordOk none l = ordOk (prevAt l (i + 1)) (l.drop (i + 1)) := by
        have hp1 : prevAt l (i + 1) = some x := by unfold prevAt; rw [if_neg (by omega), Nat.add_sub_cancel, hx]
        rw [ho, drop_at hx, hp1]
        cases hp : prevAt l i with
        | none => rw [hp] at b5; simp only [Bool.or_false, Bool.not_eq_false'] at b5; simp [ordOk, b5]
        | some y =>
         rw [hp] at b5
         simp only [Bool.or_eq_false_iff, Bool.not_eq_false', decide_eq_false_iff_not] at b5
         simp only [ordOk]; rw [decide_eq_true (by omega : y.id < x.id), b5.1]; simp
       simp (disch := first|exact dis|fail) only [go_sem, simprocAttr, ↓EU_rg, k1, k5, k27, k28, k29, k3, k52, b5]
       ((repeat refine WPo_ob ?_); (first | refine WPo_cond (fun b6 => ?_) (fun b6 => ?_) | refine WPo_gard (fun b6 => ?_) (fun b6 => ?_) | refine WPo_gardT (fun b6 => ?_) (fun b6 => ?_)) <;> (try simp only [Bool.not_eq_true', Bool.not_eq_false'] at b6))
       ·simp (disch := first|exact dis|fail) only [go_sem, simprocAttr, ↓EU_rg, k1, k5, k27, k28, k29, k3, k52, b6, hX3]
        refine ⟨_, by omega, i + 1, _, _, rfl, rfl, by omega, by simp (disch := first|exact dis|fail) only [go_sem, simprocAttr, ↓EU_rg, k1], by simp (disch := first|exact dis|fail) only [go_sem, simprocAttr, ↓EU_rg, k27], by simp (disch := first|exact dis|fail) only [go_sem, simprocAttr, ↓EU_rg, k28], by simp (disch := first|exact dis|fail) only [go_sem, simprocAttr, ↓EU_rg], ?_, hx13, ho'⟩
        rw [take_any _ hx, ← Bool.or_assoc, b6]
        simp (disch := first|exact dis|fail) only [go_sem, simprocAttr, ↓EU_rg]
        rfl
       ·simp (disch := first|exact dis|fail) only [go_sem, simprocAttr, ↓EU_rg, k1, k5, k27, k28, k29, k3, k52, b6, hX3]
        refine ⟨_, by omega, i + 1, _, _, rfl, rfl, by omega, by simp (disch := first|exact dis|fail) only [go_sem, simprocAttr, ↓EU_rg, k1], by simp (disch := first|exact dis|fail) only [go_sem, simprocAttr, ↓EU_rg, k27], by simp (disch := first|exact dis|fail) only [go_sem, simprocAttr, ↓EU_rg, k28], by simp (disch := first|exact dis|fail) only [go_sem, simprocAttr, ↓EU_rg], ?_, hx13, ho'⟩
        rw [take_any _ hx, ← Bool.or_assoc, b6]
        simp (disch := first|exact dis|fail) only [go_sem, simprocAttr, ↓EU_rg]
        rfl
    ·simp only [decide_eq_false_iff_not] at b2
     simp (disch := first|exact dis|fail) only [go_sem, simprocAttr, ↓EU_rg]
     have : i = l.length := by omega
     subst this
     rw [List.take_length] at g3
     refine ⟨_, _, rfl, x2, .inl ⟨trivial, ?_, by simp (disch := first|exact dis|fail) only [go_sem, simprocAttr, ↓EU_rg, g3]⟩⟩
     rw [ho, List.drop_length]
     cases prevAt l l.length <;> rfl
   ·exact ⟨0, _, _, rfl, rfl, by omega, by simp (disch := first|exact dis|fail) only [go_sem, simprocAttr, ↓EU_rg, g1], by simp (disch := first|exact dis|fail) only [go_sem, simprocAttr, ↓EU_rg], by simp (disch := first|exact dis|fail) only [go_sem, simprocAttr, ↓EU_rg], by simp (disch := first|exact dis|fail) only [go_sem, simprocAttr, ↓EU_rg]; all_goals rfl, by simp (disch := first|exact dis|fail) only [go_sem, simprocAttr, ↓EU_rg]; simp, Ext.refl _, rfl⟩
   ·omega
   ·rintro ⟨q, _⟩ ⟨tm, h2, rfl, x2, ⟨rfl, e1, e2⟩ | ⟨rfl, e1, e2⟩⟩
    ·simp (disch := first|exact dis|fail) only [go_sem, simprocAttr, ↓EU_rg, e2]
     rw [e1]
     exact ⟨by simp, hx1.trans x2⟩
    ·simp (disch := first|exact dis|fail) only [go_sem, simprocAttr, ↓EU_rg, e2]
     rw [e1]
     exact ⟨rfl, hx1.trans x2⟩

noncomputable def itemEq (x y : Item) : Bool := decide (x.id = y.id) && (decide (x.w = y.w) && decide (x.lag = y.lag))
theorem itemEq_iff (x y : Item) : itemEq x y = true ↔ x = y := by
 cases x; cases y; simp [itemEq]
noncomputable def itemC (a b : Item) (f : Field) : Bool := match f.offset with
 | 0 => a.id == b.id
 | 1 => a.w == b.w
 | _ => a.lag == b.lag
theorem itemE_flatV (x : Item) : (itemE x).all flat1 = true := rfl
theorem item_equal (a b : Item) : absPure Tryz.prog (Op.equal 43 (.agg ⟨itemE a⟩) (.agg ⟨itemE b⟩)) = some (itemEq a b) := by
 rw [eq_struct Tryz.underlying43 (by kernel_rfl) (itemC a b)]
 ·simp [itemC, itemEq]
  rfl
 ·intro f hf
  simp only [List.mem_cons, List.not_mem_nil, or_false] at hf
  rcases hf with rfl | rfl | rfl <;> exact ⟨by decide, by kernel_rfl⟩
@[go_sem] theorem item_eql (x y : Operand) (a b : Item) : evBin Tryz.prog .eql 43 x y (.agg ⟨itemE a⟩) (.agg ⟨itemE b⟩) = some (.bool (itemEq a b)) := bin_eqlS (item_equal a b) (by kernel_rfl) rfl rfl
@[go_sem] theorem item_neq (x y : Operand) (a b : Item) : evBin Tryz.prog .neq 43 x y (.agg ⟨itemE a⟩) (.agg ⟨itemE b⟩) = some (.bool (!itemEq a b)) := bin_neqS (item_equal a b) (by kernel_rfl) rfl rfl
theorem slEq_ev (l m : List Item) (s t : Value) (h : Heap) (hs : SL itemE 3 h s l) (ht : SL itemE 3 h t m) (hl : l.length < 900000) :
  Pu (EF Tryz.prog O0 38 [s, t] h) h (.bool (decide (l = m))) := by
 unfold Pu
 rw [EF_body (O := O0) (by kernel_rfl) Tryz.func38 rfl (rs := [.tmp 4]) rfl (bad := []) (by kernel_rfl) _ _ (m := 26) rfl]
 obtain ⟨a, c, hv⟩ := hs.val
 subst hv
 obtain ⟨a2, c2, hv⟩ := ht.val
 subst hv
 simp (disch := first|exact dis|fail) only [go_sem, simprocAttr, ↓EU_rg]
 ((repeat refine WPo_ob ?_); (first | refine WPo_cond (fun b1 => ?_) (fun b1 => ?_) | refine WPo_gard (fun b1 => ?_) (fun b1 => ?_) | refine WPo_gardT (fun b1 => ?_) (fun b1 => ?_)) <;> (try simp only [Bool.not_eq_true', Bool.not_eq_false'] at b1))
 ·simp (disch := first|exact dis|fail) only [go_sem, simprocAttr, ↓EU_rg, b1]
  refine ⟨?_, Ext.refl _⟩
  simp only [decide_eq_false_iff_not] at b1
  rw [decide_eq_false]
  intro e; subst e; exact b1 rfl
 ·simp only [decide_eq_true_eq] at b1
  have b1' : l.length = m.length := by omega
  simp (disch := first|exact dis|fail) only [go_sem, simprocAttr, ↓EU_rg]
  repeat refine WPo_ob ?_
  refine (LP_rule (fun k st => ∃ i tm h1, st = ⟨tm, h1, []⟩ ∧ k = l.length - i ∧ i ≤ l.length ∧ Fr.get tm 0 = .slice a l.length c ∧ Fr.get tm 1 = .slice a2 m.length c2 ∧ Fr.get tm 12 = .int .i64 l.length ∧ Fr.get tm 13 = .int .i64 i ∧ Ext h h1 ∧ l.take i = m.take i)
   (fun q => ∃ tm h1, q.2 = ⟨tm, h1, []⟩ ∧ Ext h h1 ∧ ((q.1 = .exit 0 ∧ l = m) ∨ (q.1 = .ret ∧ l ≠ m ∧ Fr.get tm 4 = .bool false))) ?_ l.length _ _ ?_ ?_).mono ?_
  ·rintro k _ ⟨i, tm, h1, rfl, rfl, hi, g0, g1, g12, g13, x1, ht1⟩
   simp (disch := first|exact dis|fail) only [go_sem, simprocAttr, ↓EU_rg, g0, g1, g12, g13]
   ((repeat refine WPo_ob ?_); (first | refine WPo_cond (fun b2 => ?_) (fun b2 => ?_) | refine WPo_gard (fun b2 => ?_) (fun b2 => ?_) | refine WPo_gardT (fun b2 => ?_) (fun b2 => ?_)) <;> (try simp only [Bool.not_eq_true', Bool.not_eq_false'] at b2))
   ·simp only [decide_eq_true_eq] at b2
    have hi' : i < l.length := by omega
    obtain ⟨x, hx⟩ : ∃ x, l[i]? = some x := ⟨_, List.getElem?_eq_getElem hi'⟩
    obtain ⟨y, hy⟩ : ∃ y, m[i]? = some y := ⟨_, List.getElem?_eq_getElem (by omega)⟩
    obtain ⟨b, o, c', e, hb', hr, _⟩ := (hs.ext x1).at hx rfl
    cases e
    obtain ⟨b', o', c', e, hb'', hr', _⟩ := (ht.ext x1).at hy rfl
    cases e
    simp (disch := first|exact dis|fail) only [go_sem, simprocAttr, ↓EU_rg, g0, g1, g12, g13, hr, hr']
    ((repeat refine WPo_ob ?_); (first | refine WPo_cond (fun b3 => ?_) (fun b3 => ?_) | refine WPo_gard (fun b3 => ?_) (fun b3 => ?_) | refine WPo_gardT (fun b3 => ?_) (fun b3 => ?_)) <;> (try simp only [Bool.not_eq_true', Bool.not_eq_false'] at b3))
    ·simp (disch := first|exact dis|fail) only [go_sem, simprocAttr, ↓EU_rg, b3]
     refine ⟨_, _, rfl, x1, .inr ⟨trivial, ?_, by simp (disch := first|exact dis|fail) only [go_sem, simprocAttr, ↓EU_rg]⟩⟩
     intro e
     subst e
     rw [hx] at hy
     cases hy
     rw [(itemEq_iff x x).2 rfl] at b3
     cases b3
    ·have e := (itemEq_iff x y).1 b3
     simp (disch := first|exact dis|fail) only [go_sem, simprocAttr, ↓EU_rg, b3, g12, g13]
     refine ⟨_, by omega, i + 1, _, _, rfl, rfl, by omega, by simp (disch := first|exact dis|fail) only [go_sem, simprocAttr, ↓EU_rg, g0], by simp (disch := first|exact dis|fail) only [go_sem, simprocAttr, ↓EU_rg, g1], by simp (disch := first|exact dis|fail) only [go_sem, simprocAttr, ↓EU_rg, g12], by simp (disch := first|exact dis|fail) only [go_sem, simprocAttr, ↓EU_rg], x1, ?_⟩
     rw [List.take_add_one, List.take_add_one, ht1, hx, hy, e]
   ·simp only [decide_eq_false_iff_not] at b2
    simp (disch := first|exact dis|fail) only [go_sem, simprocAttr, ↓EU_rg]
    have : i = l.length := by omega
    subst this
    rw [List.take_length, List.take_of_length_le (by omega)] at ht1
    exact ⟨_, _, rfl, x1, .inl ⟨trivial, ht1⟩⟩
  ·exact ⟨0, _, _, rfl, rfl, by omega, by simp (disch := first|exact dis|fail) only [go_sem, simprocAttr, ↓EU_rg], by simp (disch := first|exact dis|fail) only [go_sem, simprocAttr, ↓EU_rg], by simp (disch := first|exact dis|fail) only [go_sem, simprocAttr, ↓EU_rg], by simp (disch := first|exact dis|fail) only [go_sem, simprocAttr, ↓EU_rg]; all_goals rfl, Ext.refl _, by simp⟩
  ·omega
  ·rintro ⟨q, _⟩ ⟨tm, h2, rfl, x2, ⟨rfl, e1⟩ | ⟨rfl, e1, e2⟩⟩
   ·simp (disch := first|exact dis|fail) only [go_sem, simprocAttr, ↓EU_rg]
    exact ⟨by rw [decide_eq_true e1], x2⟩
   ·simp (disch := first|exact dis|fail) only [go_sem, simprocAttr, ↓EU_rg, e2]
    exact ⟨by rw [decide_eq_false e1], x2⟩
theorem same_ev (c1 c2 : Int) (l m : List Item) (s t : Value) (h : Heap) (hs : SL itemE 3 h s l) (ht : SL itemE 3 h t m) (hl : l.length < 900000) :
  Pu (EF Tryz.prog O0 12 [formV c1 s, formV c2 t] h) h (.bool (decide (c1 = c2) && decide (l = m))) := by
 unfold Pu formV
 rw [EF_body (O := O0) (by kernel_rfl) Tryz.func12 rfl (rs := [.tmp 4]) rfl (bad := []) (by kernel_rfl) _ _ (m := 17) rfl]
 obtain ⟨a, c, hv⟩ := hs.val
 subst hv
 obtain ⟨a2, c2, hv⟩ := ht.val
 subst hv
 simp (disch := first|exact dis|fail) only [go_sem, simprocAttr, ↓EU_rg]
 ((repeat refine WPo_ob ?_); (first | refine WPo_cond (fun b1 => ?_) (fun b1 => ?_) | refine WPo_gard (fun b1 => ?_) (fun b1 => ?_) | refine WPo_gardT (fun b1 => ?_) (fun b1 => ?_)) <;> (try simp only [Bool.not_eq_true', Bool.not_eq_false'] at b1))
 ·simp (disch := first|exact dis|fail) only [go_sem, simprocAttr, ↓EU_rg, b1]
  repeat refine WPo_ob ?_
  refine (slEq_ev l m _ _ _ (hs.ext (((Ext.refl h).push _).push _)) (ht.ext (((Ext.refl h).push _).push _)) hl).bind fun h1 x1 => ?_
  simp (disch := first|exact dis|fail) only [go_sem, simprocAttr, ↓EU_rg, b1]
  exact ⟨trivial, (((Ext.refl h).push _).push _).trans x1⟩
 ·simp (disch := first|exact dis|fail) only [go_sem, simprocAttr, ↓EU_rg, b1]
  exact ⟨trivial, ((Ext.refl h).push _).push _⟩
end Go.Proofs.YtddgcakiceodgaaGreat.EV
