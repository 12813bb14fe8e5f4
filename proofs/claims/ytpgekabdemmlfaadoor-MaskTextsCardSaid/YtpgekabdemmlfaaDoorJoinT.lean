/- What is told beside: strings.Join, by the kit's contract; the seat's 'awake'. No condition. -/
import Derived.Test.YtpgekabdemmlfaaDoorO0d
import Derived.Shelf.Strings.OnBuilder
namespace Go.Proofs
open Go.Shelf
theorem Tryd.builder_extra : Builder.Extra Tryd.prog Tryd.lays156_ren := {
  sizeBuilder := by kernel_rfl
  liesBuilder := by kernel_rfl
  t5 := Tryd.underlying5
  a5 := Tryd.isAgg5
  z5 := Tryd.sizeOf5
  v5 := Tryd.zeroValue5
  infoByte := by kernel_rfl
  cellsByte := by kernel_rfl
  sizeByte := by kernel_rfl
  neB5 := by decide }
end Go.Proofs
namespace Go.Proofs.YtpgekabdemmlfaaDoor.EV
open Go Go.Proofs Go.RowKit
set_option linter.unusedVariables false
set_option linter.unusedSimpArgs false
theorem join_calls (bk o c : Nat) (xs : List ByteArray) (sep : ByteArray) (w : World) (hcells : ∀ (j : Nat) x, xs[j]? = some x → w.cell? ⟨bk, o + j, none⟩ = some (.string x)) (hbk : bk < w.heap.size) (hN : xs.length ≤ 140737488355328) (hcap : xs.length ≤ c) (hlen : (Lib.join (xs.map (·.data.toList)) sep.data.toList).length ≤ 140737488355328) :
    Calls Tryd.prog 22 #[.slice (some ⟨bk, o, none⟩) xs.length c, .string sep] w fun e w' => e = .returned (.string ⟨(Lib.join (xs.map (·.data.toList)) sep.data.toList).toArray⟩) ∧ Below w.heap.size w w' :=
  Any.strings_Join Tryd.lays156 Tryd.builder_extra bk o c xs sep w hcells hbk hN hcap hlen
noncomputable def strs : List Value → Option (List ByteArray)
  | [] => some []
  | .string s :: l => match strs l with
    | some r => some (s :: r)
    | none => none
  | _ => none
noncomputable def joinB (xs : List ByteArray) (sep : ByteArray) : List UInt8 := Lib.join (xs.map (·.data.toList)) sep.data.toList
noncomputable def joinT (args : List Value) (h : Heap) : VH := match args with
  | [.slice (some ⟨b, o, none⟩) n _, .string sep] => ob (h.rd b o n) fun cs => ob (strs cs) fun xs => cnd (Nat.blt 0 n && (Nat.ble n 100000 && Nat.ble (joinB xs sep).length 10000000)) (some (strV (joinB xs sep), h)) none
  | _ => none
theorem strs_spec : ∀ (cs : List Value) (xs : List ByteArray), strs cs = some xs → cs = xs.map .string
  | [], xs, h => by cases h; rfl
  | v :: cs, xs, h => by
    cases v with
    | string s =>
      have h' : (match strs cs with | some r => some (s :: r) | none => none) = some xs := h
      cases hs : strs cs with
      | none => rw [hs] at h'; cases h'
      | some r =>
        rw [hs] at h'
        cases h'
        rw [strs_spec cs r hs]; rfl
    | _ => cases h
theorem rdl {d c : List Value} {o n : Nat} (h : (cnd (Nat.ble (o + n) d.length) (some ((d.drop o).take n)) none) = some c) : c.length = n := by
  cases hb : Nat.ble (o + n) d.length with
  | false => rw [hb] at h; cases h
  | true =>
    rw [hb] at h
    have := Nat.le_of_ble_eq_true hb
    cases h
    rw [List.length_take, List.length_drop]
    omega
theorem joinT_sound {args : List Value} {h : Heap} {v : Value} {h' : Heap} (hg : joinT args h = some (v, h')) : SF1 Tryd.prog 22 args h v h' := by
  unfold joinT at hg
  split at hg
  · rename_i b o n c sep
    obtain ⟨cs, hrd, hg⟩ := ob_inv hg
    obtain ⟨xs, hst, hg⟩ := ob_inv hg
    cases hr : (Nat.blt 0 n && (Nat.ble n 100000 && Nat.ble (joinB xs sep).length 10000000)) with
    | false => rw [hr] at hg; cases hg
    | true =>
      rw [hr] at hg
      cases hg
      simp only [Bool.and_eq_true] at hr
      obtain ⟨r0, r1, r2⟩ := hr
      rw [Nat.blt_eq] at r0
      have r1 := Nat.le_of_ble_eq_true r1
      have r2 := Nat.le_of_ble_eq_true r2
      refine ⟨⟨_, _, Tryd.func22, rfl⟩, fun M w0 w args' m H hl => ?_⟩
      obtain ⟨y1, q1, e1, k1, l1⟩ := hl.cons_inv
      obtain ⟨y2, q2, e2, k2, l2⟩ := l1.cons_inv
      have e3 := l2.nil_inv
      rw [k2.flat_eq rfl] at e2
      subst e3
      subst e2
      have ha : args' = #[y1, .string sep] := by
        cases args'
        simp only at e1
        subst e1
        rfl
      subst ha
      obtain ⟨hcl, hxs⟩ : cs.length = n ∧ cs = xs.map .string := ⟨(by
        unfold Heap.rd at hrd
        cases hx : h.get b with
        | cells d es => rw [hx] at hrd; exact rdl hrd
        | ro d => rw [hx] at hrd; exact rdl hrd
        | _ => rw [hx] at hrd; cases hrd), strs_spec _ _ hst⟩
      have hnd : h.get b ≠ .dead := fun e => by unfold Heap.rd at hrd; rw [e] at hrd; cases hrd
      have key : ∀ (l : Loc) (x c' : Nat), M[b]? = some l → x = l.sh + o → n ≤ c' → CallsIn (FW none) m Tryd.prog 22 #[.slice (some ⟨l.blk, x, none⟩) n c', .string sep] w (PostV M w0 h (strV (joinB xs sep))) := fun l x c' hl' hx hc' => by
        obtain ⟨_, cs', hLR, hcell⟩ := H.rd hl' hrd
        have hlt := (H.blk b l hl').lt hnd
        have hn : xs.length = n := by rw [← hcl, hxs, List.length_map]
        subst hx
        have hc : ∀ (j : Nat) y, xs[j]? = some y → w.cell? ⟨l.blk, l.sh + o + j, none⟩ = some (.string y) := fun j y hj => by
          have h1 : cs[j]? = some (.string y) := by rw [hxs, List.getElem?_map, hj]; rfl
          have hj' := (List.getElem?_eq_some_iff.1 h1).1
          have h2 : ∃ z, cs'[j]? = some z := ⟨_, List.getElem?_eq_getElem (by rw [← hLR.1]; exact hj')⟩
          obtain ⟨z, hz⟩ := h2
          rw [hcell j z hz]
          have := hLR.2 j _ _ h1 hz
          rw [this.flat_eq rfl]
        have := join_calls l.blk (l.sh + o) c' xs sep w hc hlt (by omega) (by omega) (by show (joinB xs sep).length ≤ _; omega)
        rw [hn] at this
        refine CallsIn.mono (callsIn_wide.2 this) ?_
        rintro e' w' ⟨rfl, hb⟩
        refine ⟨[], _, rfl, ?_, VR.of_flat1 _ rfl⟩
        rw [List.append_nil]
        exact H.quiet ⟨hb.os, hb.tape, hb.output, hb.size, hb.block⟩
      cases k1 with
      | sx _ _ _ c0 x l h1 hn hx => exact key l x c0 h1 (hx (by omega)) hn
      | sg _ _ _ c0 c1 x l h1 hc0 hn hx => exact key l x c1 h1 (hx (by omega)).1 (by omega)
  · cases hg
noncomputable def O2 : Orc := fun f => if f = 21 then some itoaT else if f = 22 then some joinT else none
theorem O2_sound : SO Tryd.prog O2 := fun f g h args h0 v h' e => by
  unfold O2 at h
  split at h
  · rename_i q
    subst q
    cases h
    exact itoaT_sound e
  · split at h
    · rename_i q
      subst q
      cases h
      exact joinT_sound e
    · cases h
set_option maxRecDepth 100000 in
theorem awake_run : okT ((evq Tryd.prog O2 4000).F 7 [] ⟨0, .nil⟩) = true := by decide +kernel
end Go.Proofs.YtpgekabdemmlfaaDoor.EV
