/- lex.Unquote of any text; code.ints of any texts. code.Right of any program: what it answers is rightC (the walk). code.List of any program: its first line, an append of a row to a full one, the lines' lengths. -/
import Derived.Test.YtdjbkppdppdcgaaGreatDoorShelf
import Derived.Test.YtdjbkppdppdcgaaGreatDoorMCxJ
import Derived.Test.YtdjbkppdppdcgaaGreatDoorMScan1
import Derived.Test.YtdjbkppdppdcgaaGreatDoorMScanA
import Derived.Test.YtdjbkppdppdcgaaGreatDoorMCdD
import Derived.Test.YtdjbkppdppdcgaaGreatDoorMUnB
import Derived.Test.YtdjbkppdppdcgaaGreatDoorMCzL
namespace Go.Proofs.YtdjbkppdppdcgaaGreatDoor
open Go.RowKit

def UnqPost (w : World) (o : Option (List UInt8)) (e : Ending) (w' : World) : Prop := Below w.heap.size w w' ∧ match o with
  | some t => e = .returned (.tuple #[.string ⟨⟨t⟩⟩, .nilIface])
  | none => ∃ pe, e = .returned (.tuple #[.string ⟨#[]⟩, .iface 61 pe])
theorem lex_wrong (c a : Int) (w : World) : Calls Tryz.prog 123 #[.int .i64 c, .int .i64 a] w fun e w' => ∃ b, e = .returned (.pointer (some ⟨b, 0, none⟩)) ∧ Below w.heap.size w w' :=
  (lexWrong_any c a w).mono fun _ _ ⟨he, hw⟩ => ⟨_, he, by rw [hw]; exact (Below.refl _ _).alloc (Nat.le_refl _) _⟩
theorem unquote_cons (r : List UInt8) : unquoteL (34 :: r) = match litR 0 r 1 [] with
    | .ok (t, next) => if next < (34 :: r).length ∨ 65536 < t.length then none else some t
    | .bad _ _ => none := rfl

set_option maxRecDepth 100000 in
set_option maxHeartbeats 4000000 in
theorem unquote_any (l : List UInt8) (w : World) (hlen : l.length ≤ 1000000000) : Calls Tryz.prog 99 #[.string ⟨⟨l⟩⟩] w (UnqPost w (unquoteL l)) := by
  obtain ⟨R, HR⟩ : ∃ R, Hid (unquoteL l = R) := ⟨_, rfl⟩
  rw [HR.out]
  have HPF := Lib.hid (Tryz.strings_HasPrefix ⟨⟨l⟩⟩ ⟨#[34]⟩)
  obtain ⟨n, hn⟩ : ∃ n, l.length = n := ⟨_, rfl⟩
  have HN := Lib.hid hn
  have hsz : (⟨⟨l⟩⟩ : ByteArray).size = n := hn
  by_cases hp : ∃ r, l = 34 :: r
  · obtain ⟨r, hr⟩ := hp
    have HL : Hid (Lib.hasPrefix (⟨⟨l⟩⟩ : ByteArray).data.toList (⟨#[34]⟩ : ByteArray).data.toList = true) := Lib.hid (by rw [hr]; rfl)
    have hlit := fun W => literal_any l 0 W (by rw [hr]; simp) hlen
    have hd : l.drop (0 + 1) = r := by rw [hr]; rfl
    simp only [hd] at hlit
    have HLT := Lib.hid hlit
    have HR2 := HR.out
    rw [hr, unquote_cons] at HR2
    clear hlit hd
    rw [hn] at hlen
    cases hq : litR 0 r 1 [] with
    | bad c a =>
      rw [hq] at HR2 HLT
      have hR : R = none := HR2.symm
      subst hR
      clear HR2 hq hr hn
      go_enter Tryz.func99, Tryz.ntmps99
      go_wp2_with (first
        | (go_at_call 70; refine (HPF.out _).mono ?_; rintro e w1 ⟨rfl, rfl⟩; rw [HL.out])
        | (go_at_call 124; refine (HLT.out _).mono ?_; rintro e w2 ⟨hb2, h2⟩; obtain ⟨b, rfl⟩ : ∃ b, e = .returned (.tuple #[.string ⟨#[]⟩, .int .i64 0, .pointer (some ⟨b, 0, none⟩)]) := (by rcases h2 with ⟨_, _, h, _⟩ | ⟨_, _, b, _, h, _⟩; cases h; exact ⟨b, h⟩); have HB2 := Lib.hid hb2; clear hb2 h2))
      go_ret2
      exact ⟨HB2.out, _, rfl⟩
    | ok x =>
      obtain ⟨t, next⟩ := x
      rw [hq] at HR2 HLT
      dsimp only at HR2
      rw [← hr, hn] at HR2
      have HLT2 : Hid (∀ W, Calls Tryz.prog 124 #[.string ⟨⟨l⟩⟩, .int .i64 0] W fun e w' => e = .returned (.tuple #[.string ⟨⟨t⟩⟩, .int .i64 next, .pointer none]) ∧ Below W.heap.size W w') := Lib.hid fun W => (HLT.out W).mono fun e w' ⟨hb, h⟩ => by
        rcases h with ⟨o, nx, h, he⟩ | ⟨_, _, _, h, _⟩
        · injection h with h
          injection h with h1 h2
          subst h1 h2
          exact ⟨he, hb⟩
        · cases h
      have HR3 := Lib.hid HR2
      clear HR2 hq hr HLT hn
      by_cases h1 : next < n
      · have hR : R = none := by rw [← HR3.out, if_pos (.inl h1)]
        subst hR
        have d1 : decide (next < n) = true := decide_eq_true h1
        go_enter Tryz.func99, Tryz.ntmps99
        go_wp2_with (first
          | (go_at_call 70; refine (HPF.out _).mono ?_; rintro e w1 ⟨rfl, rfl⟩; rw [HL.out])
          | (go_at_call 124; refine (HLT2.out _).mono ?_; rintro e w2 ⟨rfl, hb2⟩; have HB2 := Lib.hid hb2; clear hb2)
          | (go_at_call 123; refine (lex_wrong _ _ _).mono ?_; rintro e w3 ⟨b, rfl, hb3⟩; have HB3 := Lib.hid (HB2.out.trans (hb3.mono HB2.out.size)); clear hb3))
        go_ret2
        exact ⟨HB3.out, _, rfl⟩
      · have d1 : decide (next < n) = false := decide_eq_false h1
        obtain ⟨tl, htl⟩ : ∃ tl, t.length = tl := ⟨_, rfl⟩
        have hts : (⟨⟨t⟩⟩ : ByteArray).size = tl := htl
        rw [htl] at HR3
        by_cases h2 : 65536 < tl
        · have hR : R = none := by rw [← HR3.out, if_pos (.inr h2)]
          subst hR
          have d2 : decide (65536 < (tl : Int)) = true := by simp; omega
          clear htl
          go_enter Tryz.func99, Tryz.ntmps99
          go_wp2_with (first
            | (go_at_call 70; refine (HPF.out _).mono ?_; rintro e w1 ⟨rfl, rfl⟩; rw [HL.out])
            | (go_at_call 124; refine (HLT2.out _).mono ?_; rintro e w2 ⟨rfl, hb2⟩; have HB2 := Lib.hid hb2; clear hb2)
            | (go_at_call 123; refine (lex_wrong _ _ _).mono ?_; rintro e w3 ⟨b, rfl, hb3⟩; have HB3 := Lib.hid (HB2.out.trans (hb3.mono HB2.out.size)); clear hb3))
          go_ret2
          exact ⟨HB3.out, _, rfl⟩
        · have hR : R = some t := by rw [← HR3.out, if_neg (by omega)]
          subst hR
          have d2 : decide (65536 < (tl : Int)) = false := by simp; omega
          clear htl
          go_enter Tryz.func99, Tryz.ntmps99
          go_wp2_with (first
            | (go_at_call 70; refine (HPF.out _).mono ?_; rintro e w1 ⟨rfl, rfl⟩; rw [HL.out])
            | (go_at_call 124; refine (HLT2.out _).mono ?_; rintro e w2 ⟨rfl, hb2⟩; have HB2 := Lib.hid hb2; clear hb2))
          go_ret2
          exact ⟨HB2.out, rfl⟩
  · have hR : R = none := by
      rw [← HR.out]
      unfold unquoteL
      split
      · exact absurd ⟨_, rfl⟩ hp
      · rfl
    subst hR
    have HL : Hid (Lib.hasPrefix (⟨⟨l⟩⟩ : ByteArray).data.toList (⟨#[34]⟩ : ByteArray).data.toList = false) := Lib.hid (by
      show Lib.hasPrefix l [34] = false
      cases l with
      | nil => rfl
      | cons c r =>
        have : ¬ (34 = c) := fun e => hp ⟨r, by rw [e]⟩
        simp [Lib.hasPrefix, List.isPrefixOf, this])
    clear hp hn
    go_enter Tryz.func99, Tryz.ntmps99
    go_wp2_with (first
      | (go_at_call 70; refine (HPF.out _).mono ?_; rintro e w1 ⟨rfl, rfl⟩; rw [HL.out])
      | (go_at_call 123; refine (lex_wrong _ _ _).mono ?_; rintro e w3 ⟨b, rfl, hb3⟩; have HB3 := Lib.hid hb3; clear hb3))
    go_ret2
    exact ⟨HB3.out, _, rfl⟩
end Go.Proofs.YtdjbkppdppdcgaaGreatDoor

namespace Go.Proofs.YtdjbkppdppdcgaaGreatDoor
open Go.RowKit

theorem right_many {p : Cp} : rightC p = match manyC p with
    | some i => some ⟨22, i, none⟩
    | none => if !globalsB [] (p.globals.map fun s => s.data.toList) then some ⟨130, 0, none⟩ else match headsFrom p.funcs 0 p.funcs [] with
      | some i => some ⟨130, i, none⟩
      | none => match codesFrom p 0 p.funcs with
        | some w => some w
        | none => fitsFrom 0 p.funcs := by
  unfold rightC manyC
  split
  · rfl
  · cases manyFrom p.funcs 0 <;> rfl
theorem many_len {p : Cp} (h : manyC p = none) (hs : manySum p.funcs ≤ 4000000000000) : p.funcs.length ≤ 20000 ∧ manySum p.funcs ≤ 60000 := by
  have := manySum_pos p.funcs
  unfold manyC at h
  rw [show IntKind.i64.wrap (manySum p.funcs) = manySum p.funcs by rw [IntKind.wrap_i64]; omega] at h
  split at h
  · cases h
  · omega
theorem RightPost.wrong {w wr w' : World} {c a : Int} {i : Option Int} {b : Nat} (hb : Below w.heap.size w wr) (h1 : Below wr.heap.size wr w') (hl : wr.heap.size ≤ b) (hw : WrAt w' b c a i) : RightPost w (some ⟨c, a, i⟩) (.returned (.iface 61 (.pointer (some ⟨b, 0, none⟩)))) w' :=
  ⟨hb.trans (h1.mono hb.size), b, rfl, Nat.le_trans hb.size hl, hw⟩
theorem WrongPost.out {w : World} {c a : Int} {i : Option Int} {e : Ending} {w' : World} (h : WrongPost w c a i e w') : ∃ b, e = .returned (.pointer (some ⟨b, 0, none⟩)) ∧ Below w.heap.size w w' ∧ w.heap.size ≤ b ∧ WrAt w' b c a i := by
  obtain ⟨h1, b, h2, h3, h4⟩ := h
  exact ⟨b, h2, h1, h3, h4⟩

set_option maxRecDepth 100000 in
set_option maxHeartbeats 8000000 in
theorem right_all {p : Cp} {n m fc gc : Nat} {fa ga : Option Addr} {xs : List (Cf × Fv)} {w : World} (hp : PgAt w p n m fa ga xs) (h1 : n ≤ fc) (h2 : m ≤ gc) (ht : Tame p) (hG : Gc w) :
    Calls Tryz.prog 13 #[.agg #[.slice fa n fc, .slice ga m gc]] w (RightPost w (rightC p)) := by
  obtain ⟨R, HR⟩ : ∃ R, Hid (rightC p = R) := ⟨_, rfl⟩
  rw [HR.out]
  have HE := Lib.hid ((right_many (p := p)).symm.trans HR.out)
  have HPG := Lib.hid hp
  have HT := Lib.hid ht
  have HGc := Lib.hid hG
  have hnl := hp.fn
  have hml := hp.gn
  have HN := Lib.hid hnl
  have HM := Lib.hid hml
  have hn : n ≤ 140737488351232 := hnl ▸ ht.ok.1
  have hm2 : m ≤ 140737488351232 := hml ▸ ht.ok.2.1
  have h13 := hG.size
  have HMA : Hid (∀ W, Below w.heap.size w W → Calls Tryz.prog 28 #[.agg #[.slice fa n fc, .slice ga m gc]] W (ManyPost W (manyC p))) := Lib.hid fun W hW => codeMany_any (hp.rise hW) ht.ok ht.sum
  have HGL : Hid (∀ W, Below w.heap.size w W → Calls Tryz.prog 29 #[.slice ga m gc] W fun e w' => e = .returned (.bool (globalsB [] (p.globals.map fun s => s.data.toList))) ∧ Below W.heap.size W w') := Lib.hid fun W hW => by
    have := globals_any p.globals ga gc W (hG.up hW) (hp.rise hW).gr ht.ok.2.1 ht.ok.2.2.2
    rw [hml] at this
    exact this
  have HHD : Hid (∀ (W : World) (i b k : Nat) (old : List (List UInt8)) (f : Cf), Below w.heap.size w W → w.heap.size ≤ b → CntAt W b k old → k ≤ 100000000000000 → old.length ≤ 100000000000000 → p.funcs[i]? = some f → Calls Tryz.prog 31 #[.agg #[.slice fa n fc, .slice ga m gc], .int .i64 i, .map (some b)] W (HeadPost w W b k (headedB p.funcs i f old) (nextOld i f old))) :=
    Lib.hid fun W i b k old f hW hb hc hk ho hf => headed_any hp ht.ok (ht.names f (List.mem_of_getElem? hf)) hW (hG.up hW) h13 hb hc hk ho hf
  have HLV : Hid (∀ (W : World), Below w.heap.size w W → LiesC W W.heap.size p (.agg #[.slice fa n fc, .slice ga m gc])) := Lib.hid fun W hW => (hp.rise hW).lies h1 h2
  have HFN : Hid (∀ (W : World), Below w.heap.size w W → ∀ i f, p.funcs[i]? = some f → ∃ g q fv, fa = some ⟨g, q, none⟩ ∧ LiesF w w.heap.size (f, fv) ∧ HeadAt W g q i n f.name f.params f.slots f.around fv.ta f.taken.length fv.tc fv.ca f.code.length fv.cc) := Lib.hid fun W hW i f hf => headAt_of hp hW hf
  have hm := mapNew
  clear hp ht hG hnl hml h1 h2
  have HB0 : Hid (Below w.heap.size w (w.alloc (.cells #[.slice fa n fc, .slice ga m gc] 25 (0, 0)))) := Lib.hid ((Below.refl _ _).alloc (Nat.le_refl _) _)
  have HP0 := Lib.hid (heap_alloc_new w (.cells #[.slice fa n fc, .slice ga m gc] 25 (0, 0)))
  go_enter Tryz.func13, Tryz.ntmps13
  cases hM : manyC p with
  | some i0 =>
    rw [hM] at HMA HE
    have hR : R = some ⟨22, i0, none⟩ := HE.out.symm
    subst hR
    clear hM
    go_wp2_with (go_at_call 28; refine (HMA.out _ HB0.out).mono ?_; intro e w1 hpost; obtain ⟨b, rfl, hb1, hl1, hw1⟩ := WrongPost.out hpost; clear hpost)
    go_ret
    exact RightPost.wrong HB0.out hb1 hl1 hw1
  | none =>
  have hlen := many_len hM HT.out.sum
  rw [HN.out] at hlen
  obtain ⟨hn2, hsum⟩ := hlen
  have HSUM := Lib.hid hsum
  rw [hM] at HMA HE
  clear hM hsum
  cases hGB : globalsB [] (p.globals.map fun s => s.data.toList) with
  | false =>
    rw [hGB] at HGL HE
    have hR : R = some ⟨130, 0, none⟩ := HE.out.symm
    subst hR
    clear hGB
    go_wp2_with (first
      | (go_at_call 28; refine (HMA.out _ HB0.out).mono ?_; rintro e w1 ⟨rfl, hb1⟩; have hB1 := HB0.out.trans (hb1.mono HB0.out.size); have hP1 := (hb1.block _ (Array.getElem?_eq_some_iff.1 HP0.out).1).trans HP0.out; have p1 := cell_of_row w1 _ 1 _ _ _ hP1; simp only [List.getElem?_toArray, List.getElem?_cons_zero, List.getElem?_cons_succ] at p1; have HB1 := Lib.hid hB1; clear hB1 hP1 hb1)
      | (go_at_call 29; refine (HGL.out _ HB1.out).mono ?_; rintro e w2 ⟨rfl, hb2⟩; have HB2 := Lib.hid (HB1.out.trans (hb2.mono HB1.out.size)); clear hb2)
      | (go_at_call 30; refine (wrong_none 130 0 _).mono ?_; intro e w3 hpost; obtain ⟨b, rfl, hb3, hl3, hw3⟩ := WrongPost.out hpost; clear hpost))
    go_ret
    exact RightPost.wrong HB2.out hb3 hl3 hw3
  | true =>
  rw [hGB] at HGL HE
  clear hGB
  have HE2 : Hid ((match headsFrom p.funcs 0 p.funcs [] with
      | some i => some ⟨130, i, none⟩
      | none => match codesFrom p 0 p.funcs with
        | some w => some w
        | none => fitsFrom 0 p.funcs : Option Cwr) = R) := Lib.hid HE.out
  obtain ⟨RH, HRH⟩ : ∃ RH, Hid (headsFrom p.funcs 0 p.funcs [] = RH) := ⟨_, rfl⟩
  rw [HRH.out] at HE2
  clear HE
  go_wp2_with (first
    | (go_at_call 28; refine (HMA.out _ HB0.out).mono ?_; rintro e w1 ⟨rfl, hb1⟩; have hB1 := HB0.out.trans (hb1.mono HB0.out.size); have hP1 := (hb1.block _ (Array.getElem?_eq_some_iff.1 HP0.out).1).trans HP0.out; have p1 := cell_of_row w1 _ 1 _ _ _ hP1; simp only [List.getElem?_toArray, List.getElem?_cons_zero, List.getElem?_cons_succ] at p1; have HB1 := Lib.hid hB1; have HP1 := Lib.hid hP1; clear hB1 hP1 hb1)
    | (go_at_call 29; refine (HGL.out _ HB1.out).mono ?_; rintro e w2 ⟨rfl, hb2⟩; have hB2 := HB1.out.trans (hb2.mono HB1.out.size); have hP2 := (hb2.block _ (Array.getElem?_eq_some_iff.1 HP1.out).1).trans HP1.out; have hP3 := (heap_alloc_old w2 (.map #[] 0) (Array.getElem?_eq_some_iff.1 hP2).1).trans hP2; have q0 := cell_of_row _ _ 0 _ _ _ hP3; simp only [List.getElem?_toArray, List.getElem?_cons_zero] at q0; have HB2 := Lib.hid hB2; have HP2 := Lib.hid hP2; clear hB2 hP2 hb2))
  have HB3 : Hid (Below w.heap.size w (w2.alloc (.map #[] 0))) := Lib.hid (HB2.out.alloc HB2.out.size _)
  have HP3 : Hid ((w2.alloc (.map #[] 0)).heap[w.heap.size]? = some (.cells #[.slice fa n fc, .slice ga m gc] 25 (0, 0))) := Lib.hid ((heap_alloc_old _ _ (Array.getElem?_eq_some_iff.1 HP2.out).1).trans HP2.out)
  have HC3 := Lib.hid (CntAt.made w2)
  have hmb : w.heap.size < w2.heap.size := (Array.getElem?_eq_some_iff.1 HP2.out).1
  obtain ⟨mb, hmb2⟩ : ∃ mb, w2.heap.size = mb := ⟨_, rfl⟩
  rw [hmb2] at HC3 hmb
  rw [hmb2]
  clear hmb2 p1 q0 hP3
  go_loopw [28] (fun i wr => Hid (Below w.heap.size w wr) ∧ Hid (wr.heap[w.heap.size]? = some (.cells #[.slice fa n fc, .slice ga m gc] 25 (0, 0))) ∧ ∃ j : Nat, j ≤ n ∧ i = .int .i64 j ∧ ∃ old : List (List UInt8), old.length ≤ j ∧ Hid (CntAt wr mb j old) ∧ Hid (headsFrom p.funcs j (p.funcs.drop j) old = RH)) (fun i _ => n - (intOf i).toNat)
  case atStart => exact ⟨HB3, HP3, 0, Nat.zero_le _, rfl, [], Nat.le_refl _, HC3, HRH⟩
  case round =>
    clear HB3 HP3 HC3
    obtain ⟨HB, HP, j, hj, rfl, old, hol, HC, HI⟩ := hrel
    have q0 := cell_of_row wr _ 0 _ _ _ HP.out
    have q1 := cell_of_row wr _ 1 _ _ _ HP.out
    simp only [List.getElem?_toArray, List.getElem?_cons_zero, List.getElem?_cons_succ] at q0 q1
    by_cases hlt : j < n
    · obtain ⟨f, hf⟩ : ∃ f, p.funcs[j]? = some f := ⟨_, List.getElem?_eq_getElem (by rw [HN.out]; exact hlt)⟩
      have HF := Lib.hid (HHD.out wr j mb j old f HB.out (Nat.le_of_lt hmb) HC.out (by omega) (by omega) hf)
      have hq := HI.out
      rw [drop_cons hf, headsFrom_cons] at hq
      have hnx := nextOld_len j f old
      clear hf
      cases hh : headedB p.funcs j f old with
      | true =>
        rw [hh] at HF hq
        have HQ := Lib.hid hq
        clear hh hq
        go_wp2_with (go_at_call 31; refine HF.out.mono ?_; rintro e w4 ⟨rfl, hb4, hc4, hk4⟩; have HB4 := Lib.hid hb4; have HC4 := Lib.hid (hc4 rfl); have HP4 := Lib.hid ((hk4 _ (Array.getElem?_eq_some_iff.1 HP.out).1 (by omega)).trans HP.out); clear hb4 hc4 hk4)
        go_roundw
        case rel => exact ⟨HB4, HP4, j + 1, by omega, by go_num, _, by omega, HC4, HQ⟩
        case measure => simp [intOf]; omega
      | false =>
        rw [hh] at HF hq
        have hR : R = some ⟨130, j, none⟩ := by
          rw [if_neg (by simp)] at hq
          have := HE2.out
          rw [← hq] at this
          exact this.symm
        subst hR
        clear hh hq HI HRH HE2
        go_wp2_with (first
          | (go_at_call 31; refine HF.out.mono ?_; rintro e w4 ⟨rfl, hb4, hc4, hk4⟩; have HB4 := Lib.hid hb4; clear hb4 hc4 hk4)
          | (go_at_call 30; refine (wrong_none 130 j _).mono ?_; intro e w3 hpost; obtain ⟨b, rfl, hb3, hl3, hw3⟩ := WrongPost.out hpost; clear hpost))
        go_ret
        exact RightPost.wrong HB4.out hb3 hl3 hw3
    · obtain rfl : j = n := by omega
      have hRH : RH = none := by
        rw [← HI.out, List.drop_of_length_le (by rw [HN.out]; exact Nat.le_refl _)]
        rfl
      subst hRH
      have HE3 : Hid ((match codesFrom p 0 p.funcs with
        | some w => some w
        | none => fitsFrom 0 p.funcs : Option Cwr) = R) := Lib.hid HE2.out
      obtain ⟨RC, HRC⟩ : ∃ RC, Hid (codesFrom p 0 p.funcs = RC) := ⟨_, rfl⟩
      rw [HRC.out] at HE3
      clear HI HRH HE2 HC hol
      go_wp2_with fail
      clear q0 q1
      go_loopw [43] (fun i wr => Hid (Below w.heap.size w wr) ∧ Hid (wr.heap[w.heap.size]? = some (.cells #[.slice fa j fc, .slice ga m gc] 25 (0, 0))) ∧ ∃ q : Nat, q ≤ j ∧ i = .int .i64 q ∧ Hid (codesFrom p q (p.funcs.drop q) = RC)) (fun i _ => j - (intOf i).toNat)
      case atStart => exact ⟨HB, HP, 0, Nat.zero_le _, rfl, HRC⟩
      case round =>
        clear HB HP
        obtain ⟨HB, HP, q, hq, rfl, HI⟩ := hrel
        have q0 := cell_of_row wr _ 0 _ _ _ HP.out
        have q1 := cell_of_row wr _ 1 _ _ _ HP.out
        simp only [List.getElem?_toArray, List.getElem?_cons_zero, List.getElem?_cons_succ] at q0 q1
        by_cases hlt : q < j
        · obtain ⟨f, hf⟩ : ∃ f, p.funcs[q]? = some f := ⟨_, List.getElem?_eq_getElem (by rw [HN.out]; exact hlt)⟩
          obtain ⟨g, off, fv, rfl, _, hA⟩ := HFN.out wr HB.out q f hf
          have HF := Lib.hid hf
          have hi := HI.out
          rw [drop_cons hf, codesFrom_cons] at hi
          have hcl : (f.code.length : Int) ≤ 60000 := Int.le_trans (sum_mem p.funcs f (List.mem_of_getElem? hf)) HSUM.out
          obtain ⟨cn, hcn⟩ : ∃ cn, f.code.length = cn := ⟨_, rfl⟩
          have HCN := Lib.hid hcn
          obtain ⟨tn, htn⟩ : ∃ tn, f.taken.length = tn := ⟨_, rfl⟩
          rw [hcn, htn] at hA
          rw [hcn] at hcl
          have hg := hA.lt
          have x0 := hA.x0
          have x1 := hA.x1
          have x2 := hA.x2
          have x3 := hA.x3
          have x4 := hA.x4
          have x5 := hA.x5
          clear hA hf hcn htn
          by_cases hne : cn = 0
          · subst hne
            have hR : R = some ⟨130, q, none⟩ := by
              rw [if_pos (List.length_eq_zero_iff.1 HCN.out)] at hi
              have := HE3.out
              rw [← hi] at this
              exact this.symm
            subst hR
            clear hi HI HRC HE3 hcl
            have HB4 : Hid (∀ o, Below w.heap.size w (wr.alloc o)) := Lib.hid fun o => HB.out.alloc HB.out.size _
            go_wp2_with (go_at_call 30; refine (wrong_none 130 q _).mono ?_; intro e w3 hpost; obtain ⟨b, rfl, hb3, hl3, hw3⟩ := WrongPost.out hpost; clear hpost)
            go_ret
            exact RightPost.wrong (HB4.out _) hb3 hl3 hw3
          · rw [if_neg (fun e => hne (by rw [← HCN.out, e]; rfl))] at hi
            have HI2 := Lib.hid hi
            have dn : ((cn : Int) == 0) = false := by simp; omega
            clear hi HI
            obtain ⟨RF, HRF⟩ : ∃ RF, Hid (fineFrom p q f.code 0 f.code = RF) := ⟨_, rfl⟩
            rw [HRF.out] at HI2
            go_wp2_with fail
            have HB5 : Hid (Below w.heap.size w (wr.alloc (.cells #[.string f.name, .int .i64 f.params, .int .i64 f.slots, .slice fv.ta tn fv.tc, .int .i64 f.around, .slice fv.ca cn fv.cc] 43 (0, 0)))) := Lib.hid (HB.out.alloc HB.out.size _)
            have HP5 : Hid ((wr.alloc (.cells #[.string f.name, .int .i64 f.params, .int .i64 f.slots, .slice fv.ta tn fv.tc, .int .i64 f.around, .slice fv.ca cn fv.cc] 43 (0, 0))).heap[w.heap.size]? = some (.cells #[.slice (some ⟨g, off, none⟩) j fc, .slice ga m gc] 25 (0, 0))) := Lib.hid ((heap_alloc_old _ _ (Array.getElem?_eq_some_iff.1 HP.out).1).trans HP.out)
            go_loopw [58] (fun i wr => Hid (Below w.heap.size w wr) ∧ Hid (wr.heap[w.heap.size]? = some (.cells #[.slice (some ⟨g, off, none⟩) j fc, .slice ga m gc] 25 (0, 0))) ∧ ∃ k : Nat, i = .int .i64 k ∧ k ≤ cn ∧ Hid (fineFrom p q f.code k (f.code.drop k) = RF)) (fun i _ => cn - (intOf i).toNat)
            case atStart => exact ⟨HB5, HP5, 0, rfl, Nat.zero_le _, HRF⟩
            case round =>
              clear HB HP HB5 HP5 q0 q1 x0 x1 x2 x3 x4 x5 dn
              obtain ⟨HB, HP, k, rfl, hk, HK⟩ := hrel
              have q0 := cell_of_row wr _ 0 _ _ _ HP.out
              have q1 := cell_of_row wr _ 1 _ _ _ HP.out
              simp only [List.getElem?_toArray, List.getElem?_cons_zero, List.getElem?_cons_succ] at q0 q1
              by_cases hlt2 : k < cn
              · obtain ⟨x, hx⟩ : ∃ x, f.code[k]? = some x := ⟨_, List.getElem?_eq_getElem (by rw [HCN.out]; exact hlt2)⟩
                have hq2 := HK.out
                rw [drop_cons hx, fineFrom_cons] at hq2
                have HFI := Lib.hid (fine_any (HGc.out.up HB.out) (HLV.out _ HB.out) HF.out hx (by rw [HCN.out]; omega) (fun h => HT.out.says HF.out hx h))
                clear hx
                cases hfb : fineB p q f.code k x with
                | true =>
                  rw [hfb] at HFI hq2
                  have HK2 := Lib.hid hq2
                  clear hfb hq2
                  go_wp2_with (go_at_call 32; refine HFI.out.mono ?_; rintro e w4 ⟨rfl, hb4⟩; have HB4 := Lib.hid (HB.out.trans (hb4.mono HB.out.size)); have HP4 := Lib.hid ((hb4.block _ (Array.getElem?_eq_some_iff.1 HP.out).1).trans HP.out); clear hb4)
                  go_roundw
                  case rel => exact ⟨HB4, HP4, k + 1, by go_num, by omega, HK2⟩
                  case measure => simp [intOf]; omega
                | false =>
                  rw [hfb] at HFI hq2
                  have hR : R = some ⟨130, q, some k⟩ := by
                    rw [if_neg (by simp)] at hq2
                    have h3 := HI2.out
                    rw [← hq2] at h3
                    have := HE3.out
                    rw [← h3] at this
                    exact this.symm
                  subst hR
                  clear hfb hq2 HI2 HRF HRC HE3 HK
                  go_wp2_with (first
                    | (go_at_call 32; refine HFI.out.mono ?_; rintro e w4 ⟨rfl, hb4⟩; have HB4 := Lib.hid (HB.out.trans (hb4.mono HB.out.size)); clear hb4)
                    | (go_at_call 30; refine (wrong_some 130 q k (by omega) _ (HGc.out.up HB4.out)).mono ?_; intro e w3 hpost; obtain ⟨b, rfl, hb3, hl3, hw3⟩ := WrongPost.out hpost; clear hpost))
                  go_ret
                  exact RightPost.wrong HB4.out hb3 hl3 hw3
              · obtain rfl : k = cn := by omega
                have hRF : RF = none := by
                  rw [← HK.out, List.drop_of_length_le (by rw [HCN.out]; exact Nat.le_refl _)]
                  rfl
                subst hRF
                have HI3 : Hid (codesFrom p (q + 1) (p.funcs.drop (q + 1)) = RC) := Lib.hid HI2.out
                go_wp2_with fail
                go_roundw
                case rel => exact ⟨HB, HP, q + 1, by omega, by go_num, HI3⟩
                case measure => simp [intOf]; omega
        · obtain rfl : q = j := by omega
          have hRC : RC = none := by
            rw [← HI.out, List.drop_of_length_le (by rw [HN.out]; exact Nat.le_refl _)]
            rfl
          subst hRC
          have HE4 : Hid (fitsFrom 0 p.funcs = R) := Lib.hid HE3.out
          clear HI HE3
          go_wp2_with fail
          clear q0 q1
          go_loopw [75] (fun i wr => Hid (Below w.heap.size w wr) ∧ ∃ k : Nat, k ≤ q ∧ i = .int .i64 k ∧ Hid (fitsFrom k (p.funcs.drop k) = R)) (fun i _ => q - (intOf i).toNat)
          case atStart => exact ⟨HB, 0, Nat.zero_le _, rfl, HE4⟩
          case round =>
            clear HB HP
            obtain ⟨HB, k, hk, rfl, HI⟩ := hrel
            by_cases hlt : k < q
            · obtain ⟨f, hf⟩ : ∃ f, p.funcs[k]? = some f := ⟨_, List.getElem?_eq_getElem (by rw [HN.out]; exact hlt)⟩
              obtain ⟨g, off, fv, rfl, hl, hA⟩ := HFN.out wr HB.out k f hf
              have hi := HI.out
              rw [drop_cons hf, fitsFrom_cons] at hi
              have hcl : (f.code.length : Int) ≤ 60000 := Int.le_trans (sum_mem p.funcs f (List.mem_of_getElem? hf)) HSUM.out
              obtain ⟨c1, c2, c3⟩ := codes_fit HRC.out hf
              have HBD : Hid (∀ e, fitsP f.code = some e → 0 ≤ e ∧ e ≤ 60000) := Lib.hid fun e he => by have := fits_bd c1 c2 he; omega
              have HFI : Hid (∀ W, Below w.heap.size w W → Calls Tryz.prog 33 #[fnV (f, fv)] W fun e w' => e = .returned (.int .i64 (fitsR (fitsP f.code))) ∧ Below W.heap.size W w') :=
                Lib.hid fun W hW => fits_any ((hl.2.1.keep hW.block).more hW.size) c1 (by omega) c2 c3
              have hg := hA.lt
              have x0 := hA.x0
              have x1 := hA.x1
              have x2 := hA.x2
              have x3 := hA.x3
              have x4 := hA.x4
              have x5 := hA.x5
              simp only [fnV] at HFI
              have HB4 : Hid (∀ o, Below w.heap.size w (wr.alloc o)) := Lib.hid fun o => HB.out.alloc HB.out.size _
              clear hA hf hl c1 c2 c3 hcl
              cases hfp : fitsP f.code with
              | none =>
                rw [hfp] at HFI hi
                have HI2 := Lib.hid hi
                clear hfp hi
                have d : decide ((0 : Int) ≤ -1) = false := rfl
                go_wp2_with (go_at_call 33; refine (HFI.out _ (HB4.out _)).mono ?_; rintro e w4 ⟨rfl, hb4⟩; have HB5 := Lib.hid ((HB4.out _).trans (hb4.mono (HB4.out _).size)); clear hb4; simp only [fitsR])
                go_roundw
                case rel => exact ⟨HB5, k + 1, by omega, by go_num, HI2⟩
                case measure => simp [intOf]; omega
              | some z =>
                obtain ⟨hz0, hz1⟩ := HBD.out z hfp
                obtain ⟨jz, rfl⟩ := Int.eq_ofNat_of_zero_le hz0
                rw [hfp] at HFI hi
                have hR : R = some ⟨130, k, some (jz : Int)⟩ := hi.symm
                subst hR
                have d : decide ((0 : Int) ≤ (jz : Int)) = true := by simp
                clear hfp hi HI HE4 HBD
                go_wp2_with (first
                  | (go_at_call 33; refine (HFI.out _ (HB4.out _)).mono ?_; rintro e w4 ⟨rfl, hb4⟩; have HB5 := Lib.hid ((HB4.out _).trans (hb4.mono (HB4.out _).size)); clear hb4; simp only [fitsR])
                  | (go_at_call 30; refine (wrong_some 130 k jz (by omega) _ (HGc.out.up HB5.out)).mono ?_; intro e w3 hpost; obtain ⟨b, rfl, hb3, hl3, hw3⟩ := WrongPost.out hpost; clear hpost))
                go_ret
                exact RightPost.wrong HB5.out hb3 hl3 hw3
            · obtain rfl : k = q := by omega
              have hR : R = none := by
                rw [← HI.out, List.drop_of_length_le (by rw [HN.out]; exact Nat.le_refl _)]
                rfl
              subst hR
              go_wp2_with fail
              go_ret
              exact ⟨HB.out, rfl⟩
end Go.Proofs.YtdjbkppdppdcgaaGreatDoor

namespace Go.Proofs.YtdjbkppdppdcgaaGreatDoor
open Go.RowKit

def tailL (x : Ci) : List UInt8 := if x.text.data.toList = [] then [] else 32 :: (34 :: quoteL x.text.data.toList ++ [34])
def headL (f : Cf) : List UInt8 := [102, 117, 110, 99, 32] ++ (if f.name.data.toList = [] then [45] else f.name.data.toList)
theorem instL_eq (x : Ci) (b r : List UInt8) : b ++ (instL x ++ r) = (b ++ ((wordsL (9 :: (formOf x.op).word) [x.a, x.b, x.at_] ++ tailL x) ++ [10])) ++ r := by simp [instL, tailL]
theorem funcL_eq (f : Cf) (b r : List UInt8) : b ++ (funcL f ++ r) = (b ++ (wordsL (wordsL (headL f) [f.params, f.slots, f.around]) f.taken ++ [10])) ++ (f.code.flatMap instL ++ r) := by simp [funcL, headL]
theorem listL_eq (p : Cp) : listL p = (Lib.join (([103, 108, 111, 98, 97, 108, 115] : List UInt8) :: p.globals.map fun s => s.data.toList) [32] ++ [10]) ++ p.funcs.flatMap funcL := by
  rw [Lib.join_cons]
  unfold listL Lib.joinTail
  rw [List.map_map, ← List.flatMap_def]
  simp [Function.comp_def]
theorem wordsL_le (t : List UInt8) : ∀ l : List Int, t.length + l.length ≤ (wordsL t l).length
  | [] => by simp [wordsL]
  | a :: l => by
    have := wordsL_le t l
    unfold wordsL at this ⊢
    simp only [List.flatMap_cons, List.length_append, List.length_cons] at this ⊢
    omega
section
variable {P : Program} (w : World)
/-- An append of a row to a row of one that is full. -/
theorem wpList_append_row {ops : Array Oper} {rest : List Oper} {o : Oper} {a : Act} {Q : Exit → Act → World → Prop} (hgd : o.guard = none) (s x : Operand) (t : TypeId)
    (ho : o.op = .call { callee := .builtin .append, args := #[s, x], argTypes := #[t, t] }) (e : TypeId) (i : TypeInfo) (z : Value) (ht : P.underlying t = some (.slice e)) (hi : P.info? e = some i) (hz : i.zero = some z)
    (hsize : i.size = 1) (hby : i.bytes = 16)
    (b : Nat) (u : Value) (hs : a.eval s = .slice (some ⟨b, 0, none⟩) 1 1) (hc : w.cell? ⟨b, 0, none⟩ = some u) (ga : Option Addr) (m gc : Nat) (hx : a.eval x = .slice ga m gc) (us : List Value) (hm : us.length = m) (hr : RowIs w w.heap.size ga us) (hmb : m ≤ 1000000000)
    (h : ∀ bk cap w', Below w.heap.size w w' → bk < w'.heap.size → 1 + m ≤ cap → (∀ j v, (u :: us)[j]? = some v → w'.cell? ⟨bk, 0 + j, none⟩ = some v) → wpList P ops Q rest (a.put o.dst (.slice (some ⟨bk, 0, none⟩) (1 + m) cap)) w') : wpList P ops Q (o :: rest) a w := by
  have hbl : b < w.heap.size := World.block_lt_of_cell? w _ hc
  refine wpList_plain hgd fun K hK => ?_
  by_cases h0 : m = 0
  · subst h0
    obtain rfl : us = [] := List.eq_nil_of_length_eq_zero hm
    have hf : (Builtin.firstCells i.size 0 (.slice ga 0 gc)).run P w = .ok #[] w := by
      cases ga with
      | none => exact run_firstCells_none w i.size 0 0 gc
      | some a => exact run_firstCells_some w i.size 0 a 0 gc [] (by simp) (fun j v h => by cases h)
    have hr : (Builtin.append_ #[t, t] o.type #[.slice (some ⟨b, 0, none⟩) 1 1, .slice ga 0 gc]).run P w = .ok (.slice (some ⟨b, 0, none⟩) 1 1) w := by
      simp [Builtin.append_, run_underlying ht, sizeOf, typeInfo, hi, Builtin.lenOf, hf, storeCells]
    unfold Oper.wp execOp
    simp only [ho, resolve, invoke, builtin, Sem.run_bind, Sem.run_pure, Result.andThen_ok, List.map_toArray, List.map_cons, List.map_nil, hs, hx, hr]
    refine hK _ _ (h b 1 w (Below.refl _ _) hbl (Nat.le_refl _) fun j v hj => ?_)
    match j, hj with
    | 0, hj => rw [← Option.some.inj hj]; exact hc
  · obtain ⟨g, q, rfl, hg, hcs⟩ := hr.at (by omega)
    have hr := run_append_grow (P := P) w t o.type e i z ht hi hz ⟨b, 0, none⟩ 1 1 [u] (by simp [hsize]) (fun j v hj => by
      match j, hj with
      | 0, hj => rw [← Option.some.inj hj]; exact hc) ⟨g, q, none⟩ m gc us (by rw [hsize]; omega) (fun j v hj => by rw [Addr.add_lit]; exact hcs j v hj) (by omega) (by omega) (growslice_fits (by omega) (by rw [hby]; omega))
    unfold Oper.wp execOp
    simp only [ho, resolve, invoke, builtin, Sem.run_bind, Sem.run_pure, Result.andThen_ok, List.map_toArray, List.map_cons, List.map_nil, hs, hx, hr]
    refine hK _ _ (h w.heap.size _ _ ⟨rfl, rfl, rfl, by simp, fun k hk => heap_alloc_old w.drew _ hk⟩ (by simp) (grownCap_ge w (1 + m) 1 e) fun j v hj => ?_)
    rw [Nat.zero_add]
    refine (cell_of_row _ _ j _ _ _ (heap_alloc_new w.drew _)).trans ?_
    rw [← Array.getElem?_toList]
    simp only [Array.toList_append, List.cons_append, List.nil_append]
    have hl := (List.getElem?_eq_some_iff.1 hj).1
    rw [← List.cons_append, List.getElem?_append_left (by simpa using hl)]
    exact hj
end
end Go.Proofs.YtdjbkppdppdcgaaGreatDoor
