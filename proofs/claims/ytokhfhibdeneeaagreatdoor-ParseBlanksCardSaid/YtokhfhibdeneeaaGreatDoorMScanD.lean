/- lex.sign. lex.one. lex.ending. The scanner's law: how far a token reaches; what scanning comes to. lex.Scan. The lexer's plain law for ParseFirst: two texts that are one up to a token's end, where the other goes on with a blank, have the same tokens up to it. All tokens: their places rise; two texts that are one up to a token's end have the same tokens up to it. -/
import Derived.Test.YtokhfhibdeneeaaGreatDoorScanC
namespace Go.Proofs.YtokhfhibdeneeaaGreatDoor
open Go.RowKit

/-- A token. -/
structure Tok where
  kind : Int
  text : List UInt8
  at_ : Nat
def Tok.val (t : Tok) : Value := .agg #[.int .i64 t.kind, .string ⟨⟨t.text⟩⟩, .int .i64 t.at_]

/-- What reading one token ends as. -/
def OnePost (w : World) (r : Rd (Tok × Nat)) (e : Ending) (w' : World) : Prop := Below w.heap.size w w' ∧
  ((∃ t n, r = .ok (t, n) ∧ e = .returned (.tuple #[Tok.val t, .int .i64 (n : Nat), .pointer none])) ∨
   (∃ c a t n b, r = .bad c a ∧ e = .returned (.tuple #[Tok.val t, .int .i64 n, .pointer (some ⟨b, 0, none⟩)]) ∧ w.heap.size ≤ b ∧ ErrAt w' b c a))

/-- The block of the answer, still empty. -/
structure ResAt (w : World) (W : World) : Prop where
  res : W.heap[w.heap.size]? = some (.cells #[.int .i64 0, .string ⟨#[]⟩, .int .i64 0] 46 (0, 0))
  lt : w.heap.size < W.heap.size
  below : Below w.heap.size w W
theorem ResAt.init (w : World) : ResAt w (w.alloc (.cells #[.int .i64 0, .string ⟨#[]⟩, .int .i64 0] 46 (0, 0))) :=
  ⟨heap_alloc_new _ _, by simp, (Below.refl _ _).alloc (Nat.le_refl _) _⟩
theorem ResAt.keep {w W W' : World} (h : ResAt w W) (hb : Below W.heap.size W W') : ResAt w W' :=
  ⟨(hb.block _ h.lt).trans h.res, Nat.lt_of_lt_of_le h.lt hb.size, h.below.trans (hb.mono (Nat.le_of_lt h.lt))⟩
theorem ResAt.alloc {w W : World} (h : ResAt w W) (o : Obj) : ResAt w (W.alloc o) := h.keep ((Below.refl _ W).alloc (Nat.le_refl _) o)
theorem ResAt.d0 {w W : World} (h : ResAt w W) : W.cell? ⟨w.heap.size, 0, none⟩ = some (.int .i64 0) := cell_of_row W _ 0 _ _ _ h.res
theorem ResAt.d1 {w W : World} (h : ResAt w W) : W.cell? ⟨w.heap.size, 1, none⟩ = some (.string ⟨#[]⟩) := cell_of_row W _ 1 _ _ _ h.res
theorem ResAt.d2 {w W : World} (h : ResAt w W) : W.cell? ⟨w.heap.size, 2, none⟩ = some (.int .i64 0) := cell_of_row W _ 2 _ _ _ h.res
theorem ResAt.e {w W : World} (h : ResAt w W) (i : Nat) : W.frozen? ⟨w.heap.size, i, none⟩ = false := frozen_of_row W _ i _ _ h.res
/-- The answer's cells written. -/
theorem ResAt.row {w W : World} (h : ResAt w W) (a b c : Value) : (((W.setCell ⟨w.heap.size, 0, none⟩ a).setCell ⟨w.heap.size, 1, none⟩ b).setCell ⟨w.heap.size, 2, none⟩ c).heap[w.heap.size]? = some (.cells #[a, b, c] 46 (0, 0)) :=
  heap_setCell_same _ w.heap.size 2 _ _ c (heap_setCell_same _ w.heap.size 1 _ _ b (heap_setCell_same W w.heap.size 0 _ _ a h.res))
theorem ResAt.rowBelow {w W : World} (h : ResAt w W) (a b c : Value) : Below w.heap.size w (((W.setCell ⟨w.heap.size, 0, none⟩ a).setCell ⟨w.heap.size, 1, none⟩ b).setCell ⟨w.heap.size, 2, none⟩ c) :=
  ((h.below.setCell (p := ⟨w.heap.size, 0, none⟩) (Nat.le_refl _) _).setCell (p := ⟨w.heap.size, 1, none⟩) (Nat.le_refl _) _).setCell (p := ⟨w.heap.size, 2, none⟩) (Nat.le_refl _) _
theorem ResAt.bad {w W : World} (h : ResAt w W) (g : Nat) (hg : w.heap.size < g) (a b c : Value) {code at_ : Int} (he : ErrAt W g code at_) : ErrAt (((W.setCell ⟨w.heap.size, 0, none⟩ a).setCell ⟨w.heap.size, 1, none⟩ b).setCell ⟨w.heap.size, 2, none⟩ c) g code at_ :=
  have hne : g ≠ w.heap.size := Nat.ne_of_gt hg
  have _ := h.lt
  (heap_setCell_other _ ⟨w.heap.size, 2, none⟩ _ _ hne).trans ((heap_setCell_other _ ⟨w.heap.size, 1, none⟩ _ _ hne).trans ((heap_setCell_other _ ⟨w.heap.size, 0, none⟩ _ _ hne).trans he))

theorem errAt_new {W : World} {g : Nat} (h : W.heap.size = g) (code at_ : Int) : ErrAt (W.alloc (.cells #[.int .i64 code, .int .i64 at_, .string ⟨#[]⟩] 32 (0, 0))) g code at_ := by
  subst h
  exact heap_alloc_new W _

/-- The signs. -/
def signL : List (List UInt8) := [[60, 60, 61], [62, 62, 61], [58, 61], [61, 61], [33, 61], [60, 61], [62, 61], [38, 38], [124, 124], [60, 60], [62, 62], [43, 61], [45, 61], [42, 61], [47, 61], [37, 61], [38, 61], [124, 61], [94, 61], [43, 43], [45, 45], [43], [45], [42], [47], [37], [38], [124], [94], [33], [60], [62], [61], [40], [41], [91], [93], [123], [125], [44], [46], [58]]
def signsB : ByteArray := ⟨⟨[60, 60, 61, 32, 62, 62, 61, 32, 58, 61, 32, 61, 61, 32, 33, 61, 32, 60, 61, 32, 62, 61, 32, 38, 38, 32, 124, 124, 32, 60, 60, 32, 62, 62, 32, 43, 61, 32, 45, 61, 32, 42, 61, 32, 47, 61, 32, 37, 61, 32, 38, 61, 32, 124, 61, 32, 94, 61, 32, 43, 43, 32, 45, 45, 32, 43, 32, 45, 32, 42, 32, 47, 32, 37, 32, 38, 32, 124, 32, 94, 32, 33, 32, 60, 32, 62, 32, 61, 32, 40, 32, 41, 32, 91, 32, 93, 32, 123, 32, 125, 32, 44, 32, 46, 32, 58]⟩⟩
theorem fields_signs : Lib.fields signsB.data.toList = signL := by kernel_rfl
theorem ascii_signs : signsB.data.toList.all (fun b => decide (b.toNat < 128)) = true := by kernel_rfl
theorem gSpace' : Tryz.prog.globalNamed "strings.asciiSpace" = some 2 := by kernel_rfl
theorem Gl.tab {w : World} (h : Gl w) : Lib.TabIs Tryz.prog w "strings.asciiSpace" .u8 Lib.asciiSpaceTab := by
  obtain ⟨⟨_, t, fr, h4⟩, _⟩ := h
  unfold Lib.TabIs World.var?
  rw [gSpace']
  simp only [Option.bind_some, h4]
  rfl
theorem fields_call (w : World) (h : Gl w) : Calls Tryz.prog 110 #[.string signsB] w fun e w' => e = .returned (.slice (some ⟨w.heap.size, 0, none⟩) 42 42) ∧ w' = w.alloc (.cells (signL.map fun l => Value.string ⟨⟨l⟩⟩).toArray 9) := by
  refine (Tryz.strings_Fields_laid signsB w (by decide) (fun j b hj => ?_) h.tab).mono ?_
  · have h1 := List.all_eq_true.1 ascii_signs b (List.mem_of_getElem? hj)
    simpa using h1
  · rintro e w' ⟨rfl, rfl⟩
    rw [fields_signs]
    exact ⟨rfl, rfl⟩

theorem sign_result (tmps : Array Value) (W : World) (g : Nat) (v0 v1 v2 x y : Value) (h4 : tmps.getD 4 undef = .pointer (some ⟨g, 0, none⟩)) (h5 : tmps.getD 5 undef = x) (h6 : tmps.getD 6 undef = y) {fr : Nat × Nat} (hrow : W.heap[g]? = some (.cells #[v0, v1, v2] 46 fr)) :
    (results Tryz.f63 tmps).run Tryz.prog W = .ok (.tuple #[.agg #[v0, v1, v2], x, y]) W := by
  have h4' : tmps[4]?.getD undef = .pointer (some ⟨g, 0, none⟩) := by simpa using h4
  have h5' : tmps[5]?.getD undef = x := by simpa using h5
  have h6' : tmps[6]?.getD undef = y := by simpa using h6
  have e0 : W.cell? ⟨g, 0, none⟩ = some v0 := cell_of_row W _ 0 _ _ _ hrow
  have e1 : W.cell? ⟨g, 1, none⟩ = some v1 := cell_of_row W _ 1 _ _ _ hrow
  have e2 : W.cell? ⟨g, 2, none⟩ = some v2 := cell_of_row W _ 2 _ _ _ hrow
  simp [results, Tryz.f63, go_sem, h4', h5', h6', e0, e1, e2]

/-- The first sign that stands at the front. -/
def signR (p : Nat) (s : List UInt8) : List (List UInt8) → Rd (Tok × Nat)
  | [] => .bad 10 p
  | x :: xs => if Lib.hasPrefix s x then .ok (⟨7, x, p⟩, p + x.length) else signR p s xs

set_option maxRecDepth 100000 in
set_option maxHeartbeats 1000000 in
theorem sign_any (l : List UInt8) (p : Nat) (w : World) (hgl : Gl w) (hp : p ≤ l.length) (hlen : l.length ≤ 1000000000) :
    Calls Tryz.prog 63 #[.string ⟨⟨l⟩⟩, .int .i64 p] w (OnePost w (signR p (l.drop p) signL)) := by
  obtain ⟨s, HS⟩ : ∃ s, Hid (l.drop p = s) := ⟨_, rfl⟩
  rw [HS.out]
  obtain ⟨R, HR⟩ : ∃ R, Hid (signR p s signL = R) := ⟨_, rfl⟩
  rw [HR.out]
  have x1 := ba_drop l p
  rw [HS.out] at x1
  have hlen2 : signL.length = 42 := by decide
  have HL := Lib.hid hlen2
  have hgl2 : Gl (w.alloc (.cells #[.int .i64 0, .string ⟨#[]⟩, .int .i64 0] 46 (0, 0))) := hgl.up ((Below.refl _ _).alloc (Nat.le_refl _) _)
  have HF := Lib.hid (fields_call _ hgl2)
  clear hgl hgl2 hlen2
  have hxl : ∀ (j : Nat) (x : List UInt8), signL[j]? = some x → x.length ≤ 3 := by
    intro j x hj
    have h1 : signL.all (fun x => decide (x.length ≤ 3)) = true := by decide
    have h2 := List.all_eq_true.1 h1 x (List.mem_of_getElem? hj)
    simpa using h2
  have HXL := Lib.hid hxl
  clear hxl
  go_enter Tryz.func63, Tryz.ntmps63
  go_wp2_with (go_at_call 110; refine HF.out.mono ?_; rintro e w1 ⟨rfl, hw1⟩; have HW1 := Lib.hid hw1; clear hw1)
  have hw1 := HW1.out
  have hR1 : ResAt w w1 := by rw [hw1]; exact (ResAt.init w).alloc _
  have hrow : w1.heap[w.heap.size + 1]? = some (.cells (signL.map fun l => Value.string ⟨⟨l⟩⟩).toArray 9) := by rw [hw1]; have h := heap_alloc_new (w.alloc (.cells #[.int .i64 0, .string ⟨#[]⟩, .int .i64 0] 46 (0, 0))) (.cells (signL.map fun l => Value.string ⟨⟨l⟩⟩).toArray 9); simpa using h
  have hcell : ∀ (j : Nat) (x : List UInt8), signL[j]? = some x → w1.cell? ⟨w.heap.size + 1, j, none⟩ = some (.string ⟨⟨x⟩⟩) := fun j x hj => by
    rw [cell_of_row w1 (w.heap.size + 1) j _ _ _ hrow]
    simp [hj]
  have HC := Lib.hid hcell
  have HR1 := Lib.hid hR1
  clear hcell hrow hR1 hw1
  go_loopw [11] (fun i wr => ∃ j : Nat, j ≤ 42 ∧ i = .int .i64 j ∧ wr = w1 ∧ Hid (signR p s (signL.drop j) = R)) (fun i _ => 42 - (intOf i).toNat)
  case atStart => exact ⟨0, by omega, rfl, rfl, HR⟩
  case round =>
    obtain ⟨j, hj, rfl, rfl, HI⟩ := hrel
    by_cases hlt : j < 42
    · obtain ⟨x, hx⟩ : ∃ x, signL[j]? = some x := ⟨_, List.getElem?_eq_getElem (by rw [HL.out]; exact hlt)⟩
      have hc := HC.out j x hx
      have hxl := HXL.out j x hx
      have HX := Lib.hid hx
      clear hx
      have hpre := Tryz.strings_HasPrefix ⟨⟨s⟩⟩ ⟨⟨x⟩⟩ wr
      have e1 : (⟨⟨s⟩⟩ : ByteArray).data.toList = s := rfl
      have e2 : (⟨⟨x⟩⟩ : ByteArray).data.toList = x := rfl
      rw [e1, e2] at hpre
      clear e1 e2
      have d0 := HR1.out.d0
      have d1 := HR1.out.d1
      have d2 := HR1.out.d2
      have f0 := fun i => HR1.out.e i
      cases hpx : Lib.hasPrefix s x with
      | true =>
        rw [hpx] at hpre
        have hfin : R = .ok (⟨7, x, p⟩, p + x.length) := by rw [← HI.out, drop_cons HX.out, signR, if_pos hpx]
        have HFI := Lib.hid hfin
        have HPRE := Lib.hid hpre
        clear hpx hpre hfin
        go_wp2_with (go_at_call 27; refine HPRE.out.mono ?_; rintro e w2 ⟨rfl, rfl⟩)
        refine bodyPost_ret (sign_result _ _ w.heap.size _ _ _ _ _ rfl rfl rfl (HR1.out.row _ _ _)) rfl ⟨HR1.out.rowBelow _ _ _, .inl ⟨_, _, HFI.out, by simp [Tok.val]⟩⟩
      | false =>
        rw [hpx] at hpre
        have hfin : signR p s (signL.drop (j + 1)) = R := by rw [← HI.out, drop_cons HX.out, signR, if_neg (by simp [hpx])]
        have HFI := Lib.hid hfin
        have HPRE := Lib.hid hpre
        clear hpx hpre hfin d0 d1 d2 f0
        go_wp2_with (go_at_call 27; refine HPRE.out.mono ?_; rintro e w2 ⟨rfl, rfl⟩)
        go_roundw
        case rel => exact ⟨j + 1, by omega, by simp, trivial, HFI⟩
        case measure => simp [intOf]; omega
    · obtain rfl : j = 42 := by omega
      have hfin : R = .bad 10 p := by rw [← HI.out, List.drop_of_length_le (by rw [HL.out]; exact Nat.le_refl _), signR]
      have HFI := Lib.hid hfin
      have g0 := fun o => (HR1.out.alloc o).d0
      have g1 := fun o => (HR1.out.alloc o).d1
      have g2 := fun o => (HR1.out.alloc o).d2
      have g3 := fun o i => (HR1.out.alloc o).e i
      have hlt1 := HR1.out.lt
      have d0 := HR1.out.d0
      have d1 := HR1.out.d1
      have d2 := HR1.out.d2
      have f0 := fun i => HR1.out.e i
      clear hfin HC HXL
      go_wp2_with (go_at_call 25; refine (lexWrong_any _ _ _).mono ?_; rintro e w' ⟨rfl, rfl⟩)
      refine bodyPost_ret (sign_result _ _ w.heap.size _ _ _ _ _ rfl rfl rfl ((heap_alloc_old _ _ (by simp; omega)).trans (HR1.out.row _ _ _))) rfl ?_
      exact ⟨(HR1.out.rowBelow _ _ _).alloc (by simp; omega) _, .inr ⟨10, p, ⟨0, [], 0⟩, 0, wr.heap.size, HFI.out, rfl, by omega, errAt_new (by simp) _ _⟩⟩
end Go.Proofs.YtokhfhibdeneeaaGreatDoor

namespace Go.Proofs.YtokhfhibdeneeaaGreatDoor
open Go.RowKit

/-- A literal's token. -/
def litTok (p : Nat) : Rd (List UInt8 × Nat) → Rd (Tok × Nat)
  | .ok x => .ok (⟨6, x.1, p⟩, x.2)
  | .bad c a => .bad c a
/-- The token at a place; s: the text from there on. -/
def oneR (p : Nat) (s : List UInt8) : Rd (Tok × Nat) :=
  match s with
  | [] => .bad 0 0
  | c :: r =>
    if c = 59 then .ok (⟨1, [], p⟩, p + 1)
    else if c = 34 then litTok p (litR p r (p + 1) [])
    else if digitB c.toNat then (if numBad s then .bad 12 p else .ok (⟨numKind s, s.take (numN s), p⟩, p + (s.take (numN s)).length))
    else if letterB c.toNat then
      (if 40 < runN true s then .bad 13 p else .ok (⟨if wordB ⟨⟨s.take (runN true s)⟩⟩ then 3 else 2, s.take (runN true s), p⟩, p + runN true s))
    else signR p s signL

attribute [local go_sem] ba0

theorem ba_at (l : List UInt8) (p : Nat) (c : UInt8) (h : l[p]? = some c) (h' : p < (⟨⟨l⟩⟩ : ByteArray).size) : (⟨⟨l⟩⟩ : ByteArray)[p]'h' = c := by
  have := (List.getElem?_eq_some_iff.1 h).2
  exact this

set_option maxRecDepth 100000 in
set_option maxHeartbeats 4000000 in
theorem one_any (l : List UInt8) (p : Nat) (w : World) (hgl : Gl w) (hp : p < l.length) (hlen : l.length ≤ 1000000000) :
    Calls Tryz.prog 29 #[.string ⟨⟨l⟩⟩, .int .i64 p] w (OnePost w (oneR p (l.drop p))) := by
  obtain ⟨c, hc⟩ : ∃ c, l[p]? = some c := ⟨l[p], List.getElem?_eq_getElem hp⟩
  have hix := ba_at l p c hc
  have hdrop := drop_cons hc
  obtain ⟨R, HR⟩ : ∃ R, Hid (oneR p (l.drop p) = R) := ⟨_, rfl⟩
  rw [HR.out]
  have HDR := Lib.hid hdrop
  have hw32 : wrap32 (c.toNat : Int) = c.toNat := by have := c.toNat_lt; unfold wrap32; omega
  have hR0 := ResAt.init w
  have hG0 := hgl.up hR0.below
  clear hdrop hc hgl
  go_enter Tryz.func29, Tryz.ntmps29
  go_upto_region 1 with fail
  obtain ⟨W0, HW0⟩ : ∃ W0, Hid (w.alloc (.cells #[.int .i64 0, .string ⟨#[]⟩, .int .i64 0] 46 (0, 0)) = W0) := ⟨_, rfl⟩
  rw [HW0.out] at hR0 hG0 ⊢
  have d0 := hR0.d0
  have d1 := hR0.d1
  have d2 := hR0.d2
  have f0 := fun i => hR0.e i
  have HR0 := Lib.hid hR0
  have HGL := Lib.hid hG0
  clear hR0 hG0 HW0
  by_cases h1 : c = 59
  · subst h1
    have hfin : R = .ok (⟨1, [], p⟩, p + 1) := by rw [← HR.out, HDR.out, oneR, if_pos rfl]
    have HFI := Lib.hid hfin
    clear hfin
    go_wp2_with fail
    refine bodyPost_ret (one_result _ _ w.heap.size _ _ _ _ _ rfl rfl rfl (HR0.out.row _ _ _)) rfl ⟨HR0.out.rowBelow _ _ _, .inl ⟨_, _, HFI.out, by simp [Tok.val]⟩⟩
  have n1 : ((c.toNat : Int) == 59) = false := u8_ne h1
  by_cases h2 : c = 34
  · subst h2
    have hlt := literal_any l p W0 hp hlen
    obtain ⟨Q, HQ⟩ : ∃ Q, Hid (litR p (l.drop (p + 1)) (p + 1) [] = Q) := ⟨_, rfl⟩
    rw [HQ.out] at hlt
    have hfin : R = litTok p Q := by rw [← HR.out, HDR.out, oneR, if_neg (by decide), if_pos rfl, HQ.out]
    have HFI := Lib.hid hfin
    have HLT := Lib.hid hlt
    clear hfin hlt d0 d1 d2 f0
    cases Q with
    | ok x =>
      go_wp2_with (
        go_at_call 57; refine HLT.out.mono ?_
        rintro e w1 ⟨hb1, h⟩
        obtain ⟨out, next, hq, rfl⟩ := h.resolve_right (by rintro ⟨_, _, _, h, _⟩; cases h)
        obtain rfl := Rd.ok.inj hq
        have hR1 := HR0.out.keep hb1
        have d0 := hR1.d0
        have d1 := hR1.d1
        have d2 := hR1.d2
        have f0 := fun i => hR1.e i
        have HR1 := Lib.hid hR1
        clear hR1 hb1 h hq)
      refine bodyPost_ret (one_result _ _ w.heap.size _ _ _ _ _ rfl rfl rfl (HR1.out.row _ _ _)) rfl ⟨HR1.out.rowBelow _ _ _, .inl ⟨_, _, HFI.out, rfl⟩⟩
    | bad ec ea =>
      go_wp2_with (
        go_at_call 57; refine HLT.out.mono ?_
        rintro e w1 ⟨hb1, h⟩
        obtain ⟨c', a', eb, hq, rfl, hge, herr⟩ := h.resolve_left (by rintro ⟨_, _, h, _⟩; cases h)
        obtain ⟨rfl, rfl⟩ := Rd.bad.inj hq
        have hR1 := HR0.out.keep hb1
        have d0 := hR1.d0
        have d1 := hR1.d1
        have d2 := hR1.d2
        have f0 := fun i => hR1.e i
        have HR1 := Lib.hid hR1
        have HERR := Lib.hid herr
        have hlt0 := HR0.out.lt
        clear hR1 hb1 h hq herr)
      refine bodyPost_ret (one_result _ _ w.heap.size _ _ _ _ _ rfl rfl rfl (HR1.out.row _ _ _)) rfl ⟨HR1.out.rowBelow _ _ _, .inr ⟨_, _, ⟨6, [], p⟩, 0, eb, HFI.out, rfl, by omega, HR1.out.bad _ (by omega) _ _ _ HERR.out⟩⟩
  have n2 : ((c.toNat : Int) == 34) = false := u8_ne h2
  by_cases h3 : digitB c.toNat = true
  · obtain ⟨ks, HKS⟩ : ∃ ks, Hid (l.drop p = ks) := ⟨_, rfl⟩
    have hrun : 0 < runN false (l.drop p) := by
      rw [HDR.out, runN_go (by simpa [runP] using h3)]
      omega
    have hnum := lexNumber_any l p W0 hp hlen hrun
    have hfin : R = if numBad (l.drop p) then .bad 12 p else .ok (⟨numKind (l.drop p), (l.drop p).take (numN (l.drop p)), p⟩, p + ((l.drop p).take (numN (l.drop p))).length) := by
      rw [← HR.out]
      conv => lhs; rw [HDR.out, oneR, if_neg h1, if_neg h2, if_pos h3]
      rw [← HDR.out]
    obtain ⟨bad, HB⟩ : ∃ b, Hid (numBad (l.drop p) = b) := ⟨_, rfl⟩
    obtain ⟨k, HK⟩ : ∃ b, Hid (numKind (l.drop p) = b) := ⟨_, rfl⟩
    obtain ⟨txt, HT⟩ : ∃ b, Hid ((l.drop p).take (numN (l.drop p)) = b) := ⟨_, rfl⟩
    rw [HB.out, HK.out, HT.out] at hnum hfin
    have HFI := Lib.hid hfin
    have HLT := Lib.hid hnum
    clear hfin hnum d0 d1 d2 f0 hrun h1 h2
    cases bad with
    | false =>
      go_wp2_with (first
        | (go_at_call 58; (with_reducible refine (digit_any _ _).mono ?_); rintro e w2 ⟨rfl, rfl⟩)
        | (go_at_call 59; refine HLT.out.mono ?_
           rintro e w1 ⟨hb1, h⟩
           obtain ⟨_, rfl⟩ := h.resolve_right (by rintro ⟨h, _⟩; cases h)
           have hR1 := HR0.out.keep hb1
           have d0 := hR1.d0
           have d1 := hR1.d1
           have d2 := hR1.d2
           have f0 := fun i => hR1.e i
           have HR1 := Lib.hid hR1
           clear hR1 hb1 h))
      refine bodyPost_ret (one_result _ _ w.heap.size _ _ _ _ _ rfl rfl rfl (HR1.out.row _ _ _)) rfl ⟨HR1.out.rowBelow _ _ _, .inl ⟨_, _, HFI.out, rfl⟩⟩
    | true =>
      go_wp2_with (first
        | (go_at_call 58; (with_reducible refine (digit_any _ _).mono ?_); rintro e w2 ⟨rfl, rfl⟩)
        | (go_at_call 59; refine HLT.out.mono ?_
           rintro e w1 ⟨hb1, h⟩
           obtain ⟨_, eb, rfl, hge, herr⟩ := h.resolve_left (by rintro ⟨h, _⟩; cases h)
           have hR1 := HR0.out.keep hb1
           have d0 := hR1.d0
           have d1 := hR1.d1
           have d2 := hR1.d2
           have f0 := fun i => hR1.e i
           have HR1 := Lib.hid hR1
           have HERR := Lib.hid herr
           have hlt0 := HR0.out.lt
           clear hR1 hb1 h herr))
      refine bodyPost_ret (one_result _ _ w.heap.size _ _ _ _ _ rfl rfl rfl (HR1.out.row _ _ _)) rfl ⟨HR1.out.rowBelow _ _ _, .inr ⟨_, _, ⟨k, txt, p⟩, 0, eb, HFI.out, rfl, by omega, HR1.out.bad _ (by omega) _ _ _ HERR.out⟩⟩
  have h3' : digitB c.toNat = false := by simpa using h3
  by_cases h4 : letterB c.toNat = true
  · obtain ⟨n, HN⟩ : ∃ n, Hid (runN true (l.drop p) = n) := ⟨_, rfl⟩
    have hnl := runN_le true (l.drop p)
    rw [HN.out, List.length_drop] at hnl
    have hfin : R = if 40 < runN true (l.drop p) then .bad 13 p else .ok (⟨if wordB ⟨⟨(l.drop p).take (runN true (l.drop p))⟩⟩ then 3 else 2, (l.drop p).take (runN true (l.drop p)), p⟩, p + runN true (l.drop p)) := by
      rw [← HR.out]
      conv => lhs; rw [HDR.out, oneR, if_neg h1, if_neg h2, if_neg h3, if_pos h4]
      rw [← HDR.out]
    rw [HN.out] at hfin
    obtain ⟨txt, HT⟩ : ∃ b, Hid ((l.drop p).take n = b) := ⟨_, rfl⟩
    rw [HT.out] at hfin
    obtain ⟨wd, HWD⟩ : ∃ b, Hid (wordB ⟨⟨txt⟩⟩ = b) := ⟨_, rfl⟩
    rw [HWD.out] at hfin
    obtain ⟨s, HS⟩ : ∃ s, Hid (l.drop p = s) := ⟨_, rfl⟩
    have x1 := ba_drop l p
    have x2 := ba_piece l p n
    rw [HT.out] at x2
    rw [HS.out] at x1
    have hR1 := fun W => run_any ⟨⟨s⟩⟩ true W
    have e0 : runN true (⟨⟨s⟩⟩ : ByteArray).data.toList = n := by rw [← HN.out, HS.out]
    simp only [e0] at hR1
    have HR1 := Lib.hid hR1
    have HFI := Lib.hid hfin
    have hlt0 := HR0.out.lt
    clear hR1 e0 hfin d0 d1 d2 f0 h1 h2 h3
    go_upto_region 12 with (first
      | (go_at_call 58; (with_reducible refine (digit_any _ _).mono ?_); rintro e w2 ⟨rfl, rfl⟩)
      | (go_at_call 60; (with_reducible refine (letter_any _ _).mono ?_); rintro e w2 ⟨rfl, rfl⟩)
      | (go_at_call 61; (with_reducible refine (HR1.out _).mono ?_); rintro e w1 ⟨rfl, hb1⟩; have HB1 := Lib.hid hb1; clear hb1))
    have hN : NumAt w w1.heap.size 2 ⟨⟨txt⟩⟩ p (w1.alloc (.cells #[.int .i64 2, .string ⟨⟨txt⟩⟩, .int .i64 p] 46 (0, 0))) := by
      have hk := HR0.out.keep HB1.out
      have hk2 := hk.alloc (.cells #[.int .i64 2, .string ⟨⟨txt⟩⟩, .int .i64 p] 46 (0, 0))
      exact ⟨hk2.res, heap_alloc_new _ _, hk.lt, by simp, hk2.below⟩
    have hG := HGL.out.up (HB1.out.trans ((Below.refl w1.heap.size w1).alloc (Nat.le_refl _) (.cells #[.int .i64 2, .string ⟨⟨txt⟩⟩, .int .i64 p] 46 (0, 0)) |>.mono HB1.out.size))
    try rw [x2]
    obtain ⟨W2, HW2⟩ : ∃ W2, Hid (w1.alloc (.cells #[.int .i64 2, .string ⟨⟨txt⟩⟩, .int .i64 p] 46 (0, 0)) = W2) := ⟨_, rfl⟩
    rw [HW2.out] at hN hG ⊢
    have k0 := hN.c0
    have k1 := hN.c1
    have k2 := hN.c2
    have k3 := fun i => hN.f i
    have l0 := hN.d0
    have l1 := hN.d1
    have l2 := hN.d2
    have l3 := fun i => hN.e i
    have HNA := Lib.hid hN
    have HG := Lib.hid hG
    clear hN hG HB1 HR1
    obtain ⟨g, HGE⟩ : ∃ g, Hid (w1.heap.size = g) := ⟨_, rfl⟩
    rw [HGE.out] at HNA k0 k1 k2 k3 ⊢
    by_cases hn : 40 < n
    · have hfin : R = .bad 13 p := by rw [HFI.out, if_pos hn]
      have HFI := Lib.hid hfin
      have g0 := fun o => (HNA.out.alloc o).d0
      have g1 := fun o => (HNA.out.alloc o).d1
      have g2 := fun o => (HNA.out.alloc o).d2
      have g3 := fun o i => (HNA.out.alloc o).e i
      have j0 := fun o => (HNA.out.alloc o).c0
      have j1 := fun o => (HNA.out.alloc o).c1
      have j2 := fun o => (HNA.out.alloc o).c2
      clear hfin
      go_wp2_with fail
      go_region_with (go_at_call 25; refine (lexWrong_any _ _ _).mono ?_; rintro e w' ⟨rfl, rfl⟩)
      all_goals go_wp2_with fail
      all_goals
        have hlt := HNA.out.lt
        have hlo := HNA.out.low
        refine bodyPost_ret (one_result _ _ w.heap.size _ _ _ _ _ rfl rfl rfl ((HNA.out.alloc _).row _ _ _)) rfl ⟨((HNA.out.alloc _).rowBelow _ _ _).drew, .inr ⟨_, _, ⟨2, txt, p⟩, 0, W2.heap.size, HFI.out, rfl, by omega, HNA.out.bad _ _ _ _ _⟩⟩
    · have hfin : R = .ok (⟨if wd then 3 else 2, txt, p⟩, p + n) := by rw [HFI.out, if_neg hn]
      have HFI := Lib.hid hfin
      have hwd := Word_any ⟨⟨txt⟩⟩ W2 HG.out
      rw [HWD.out] at hwd
      have HWO := Lib.hid hwd
      clear hfin hwd l0 l1 l2 l3 k0 k2 k3
      cases wd with
      | true =>
        go_wp2_with (
          go_at_call 62; refine HWO.out.mono ?_
          rintro e w4 ⟨rfl, hb4⟩
          have hN4 := HNA.out.keep hb4
          clear k1
          have k0 := hN4.c0
          have k1 := hN4.c1
          have k2 := hN4.c2
          have k3 := fun i => hN4.f i
          have l0 := hN4.d0
          have l1 := hN4.d1
          have l2 := hN4.d2
          have l3 := fun i => hN4.e i
          have hlo := hN4.low
          have hne : ¬ g = w.heap.size := by omega
          have hne' : ¬ w.heap.size = g := by omega
          have HN4 := Lib.hid hN4
          clear hN4 hb4)
        refine bodyPost_ret (one_result _ _ w.heap.size _ _ _ _ _ rfl rfl rfl ((HN4.out.kind 3).row _ _ _)) rfl ⟨(HN4.out.kind 3).rowBelow _ _ _, .inl ⟨_, _, HFI.out, by simp [Tok.val]⟩⟩
      | false =>
        go_wp2_with (
          go_at_call 62; refine HWO.out.mono ?_
          rintro e w4 ⟨rfl, hb4⟩
          have hN4 := HNA.out.keep hb4
          clear k1
          have k0 := hN4.c0
          have k1 := hN4.c1
          have k2 := hN4.c2
          have l0 := hN4.d0
          have l1 := hN4.d1
          have l2 := hN4.d2
          have l3 := fun i => hN4.e i
          have HN4 := Lib.hid hN4
          clear hN4 hb4)
        refine bodyPost_ret (one_result _ _ w.heap.size _ _ _ _ _ rfl rfl rfl (HN4.out.row _ _ _)) rfl ⟨HN4.out.rowBelow _ _ _, .inl ⟨_, _, HFI.out, by simp [Tok.val]⟩⟩
  have hfin : R = signR p (l.drop p) signL := by rw [← HR.out, HDR.out, oneR, if_neg h1, if_neg h2, if_neg h3, if_neg h4]
  have HSG := Lib.hid (sign_any l p _ HGL.out (by omega) hlen)
  rw [← hfin] at HSG
  have h4' : letterB c.toNat = false := by simpa using h4
  clear hfin h1 h2 h3 h4 d0 d1 d2 f0
  cases R with
  | ok x =>
    go_wp2_with (first
      | (go_at_call 58; (with_reducible refine (digit_any _ _).mono ?_); rintro e w2 ⟨rfl, rfl⟩)
      | (go_at_call 60; (with_reducible refine (letter_any _ _).mono ?_); rintro e w2 ⟨rfl, rfl⟩)
      | (go_at_call 63; refine HSG.out.mono ?_
         rintro e w1 ⟨hb1, h⟩
         obtain ⟨⟨tk, tt, ta⟩, next, hq, rfl⟩ := h.resolve_right (by rintro ⟨_, _, _, _, _, h, _⟩; cases h)
         obtain rfl := Rd.ok.inj hq
         have hR1 := HR0.out.keep hb1
         have d0 := hR1.d0
         have d1 := hR1.d1
         have d2 := hR1.d2
         have f0 := fun i => hR1.e i
         have HR1 := Lib.hid hR1
         dsimp only [Tok.val]
         clear hR1 hb1 h hq))
    refine bodyPost_ret (one_result _ _ w.heap.size _ _ _ _ _ rfl rfl rfl (HR1.out.row _ _ _)) rfl ⟨HR1.out.rowBelow _ _ _, .inl ⟨_, _, rfl, rfl⟩⟩
  | bad ec ea =>
    go_wp2_with (first
      | (go_at_call 58; (with_reducible refine (digit_any _ _).mono ?_); rintro e w2 ⟨rfl, rfl⟩)
      | (go_at_call 60; (with_reducible refine (letter_any _ _).mono ?_); rintro e w2 ⟨rfl, rfl⟩)
      | (go_at_call 63; refine HSG.out.mono ?_
         rintro e w1 ⟨hb1, h⟩
         obtain ⟨c', a', ⟨tk, tt, ta⟩, nx, eb, hq, rfl, hge, herr⟩ := h.resolve_left (by rintro ⟨_, _, h, _⟩; cases h)
         obtain ⟨rfl, rfl⟩ := Rd.bad.inj hq
         have hR1 := HR0.out.keep hb1
         have d0 := hR1.d0
         have d1 := hR1.d1
         have d2 := hR1.d2
         have f0 := fun i => hR1.e i
         have HR1 := Lib.hid hR1
         have HERR := Lib.hid herr
         have hlt0 := HR0.out.lt
         dsimp only [Tok.val]
         clear hR1 hb1 h hq herr))
    refine bodyPost_ret (one_result _ _ w.heap.size _ _ _ _ _ rfl rfl rfl (HR1.out.row _ _ _)) rfl ⟨HR1.out.rowBelow _ _ _, .inr ⟨_, _, ⟨tk, tt, ta⟩, nx, eb, rfl, rfl, by omega, HR1.out.bad _ (by omega) _ _ _ HERR.out⟩⟩
end Go.Proofs.YtokhfhibdeneeaaGreatDoor

namespace Go.Proofs.YtokhfhibdeneeaaGreatDoor
open Go.RowKit

def Tok.cells (x : Tok) : List Value := [.int .i64 x.kind, .string ⟨⟨x.text⟩⟩, .int .i64 x.at_]
def tokCells (l : List Tok) : List Value := l.flatMap Tok.cells
theorem tokCells_append (a b : List Tok) : tokCells (a ++ b) = tokCells a ++ tokCells b := by simp [tokCells]
theorem tokCells_one (x : Tok) : tokCells [x] = x.cells := by simp [tokCells]
theorem tokCells_length (l : List Tok) : (tokCells l).length = l.length * 3 := by
  induction l with
  | nil => rfl
  | cons x r ih => simp only [tokCells, List.flatMap_cons, List.length_append, List.length_cons] at ih ⊢; rw [ih]; simp [Tok.cells]; omega
theorem tokCells_get (a : List Tok) (x : Tok) (b : List Tok) (j : Nat) (hj : j < 3) : (tokCells (a ++ x :: b))[a.length * 3 + j]? = x.cells[j]? := by
  have h : tokCells (a ++ x :: b) = tokCells a ++ (x.cells ++ tokCells b) := by simp [tokCells]
  rw [h, List.getElem?_append_right (by rw [tokCells_length]; omega), tokCells_length, List.getElem?_append_left (by simp [Tok.cells]; omega)]
  congr 1
  omega
theorem infoTok : (Tryz.prog.info? 46).map (fun i => (i.zero, i.size, i.bytes)) = some (some (.agg #[.int .i64 0, .string ⟨#[]⟩, .int .i64 0]), 3, 32) := by kernel_rfl
theorem Tok.oneCells (x : Tok) : ∀ u ∈ x.cells, u.oneCell' = true := by
  intro u hu
  unfold Tok.cells at hu
  simp at hu
  rcases hu with rfl | rfl | rfl <;> rfl
theorem Tok.news (x : Tok) (W : World) : ∀ j u, x.cells[j]? = some u → (W.alloc (.cells #[.int .i64 x.kind, .string ⟨⟨x.text⟩⟩, .int .i64 x.at_] 46)).cell? ((⟨W.heap.size, 0, none⟩ : Addr).add j) = some u := by
  intro j u hj
  have hj' : j < 3 := by have := (List.getElem?_eq_some_iff.1 hj).1; simpa [Tok.cells] using this
  unfold Tok.cells at hj
  have e : j = 0 ∨ j = 1 ∨ j = 2 := by omega
  rcases e with rfl | rfl | rfl <;> simpa [Addr.add] using hj

/-- The signs and words behind which a line's end is an end. -/
def endsL : List UInt8 := [32, 97, 110, 121, 32, 98, 114, 101, 97, 107, 32, 99, 111, 110, 116, 105, 110, 117, 101, 32, 102, 97, 108, 108, 116, 104, 114, 111, 117, 103, 104, 32, 102, 97, 108, 115, 101, 32, 102, 117, 110, 99, 32, 109, 97, 112, 32, 110, 105, 108, 32, 114, 101, 116, 117, 114, 110, 32, 116, 114, 117, 101, 32, 41, 32, 93, 32, 125, 32, 43, 43, 32, 45, 45, 32]
def endT (k : Int) (s : List UInt8) : Bool := if k = 2 ∨ k = 4 ∨ k = 5 ∨ k = 6 then true else if k = 3 ∨ k = 7 then Lib.contains endsL (32 :: (s ++ [32])) else false
/-- Is a line's end behind these tokens an end? -/
def endR (ts : List Tok) : Bool :=
  match ts.getLast? with
  | none => false
  | some t => endT t.kind t.text

set_option maxRecDepth 100000 in
set_option maxHeartbeats 2000000 in
theorem ending_any (ts : List Tok) (v : Value) (B : Nat) (w : World) (hgl : Gl w) (ho : w.ownsRow B 46 3 v ts.length (tokCells ts)) (hn : ts.length ≤ 1000000000) (hts : ∀ t ∈ ts, t.text.length ≤ 1000000000) :
    Calls Tryz.prog 26 #[v] w fun e w' => e = .returned (.bool (endR ts)) ∧ Below w.heap.size w w' := by
  obtain ⟨A, cap, rfl, hc1, hc2⟩ := row_form ho
  obtain ⟨R, HR⟩ : ∃ R, Hid (endR ts = R) := ⟨_, rfl⟩
  rw [HR.out]
  rcases List.eq_nil_or_concat ts with rfl | ⟨init, ⟨k, s, a⟩, rfl⟩
  · obtain rfl : false = R := HR.out
    clear ho hgl
    simp only [List.length_nil]
    go_enter Tryz.func26, Tryz.ntmps26
    go_wp2_with fail
    go_ret
    exact ⟨rfl, Below.refl _ _⟩
  · rw [List.concat_eq_append] at *
    obtain ⟨b, rfl, hB, hb⟩ := row_some ho (by simp)
    have hs : s.length ≤ 1000000000 := hts _ (List.mem_append_right _ (List.mem_singleton.2 rfl))
    have hfin : R = endT k s := by rw [← HR.out]; simp [endR]
    have e0 : w.cell? ⟨b, init.length * 3, none⟩ = some (.int .i64 k) := by have h := ho.cells (g := b) rfl (init.length * 3 + 0) _ (by rw [tokCells_get init ⟨k, s, a⟩ [] 0 (by omega)]; rfl); rw [Addr.add_lit, Nat.zero_add] at h; exact h
    have e1 : w.cell? ⟨b, init.length * 3 + 1, none⟩ = some (.string ⟨⟨s⟩⟩) := by have h := ho.cells (g := b) rfl (init.length * 3 + 1) _ (by rw [tokCells_get init ⟨k, s, a⟩ [] 1 (by omega)]; rfl); rw [Addr.add_lit, Nat.zero_add] at h; exact h
    have e2 : w.cell? ⟨b, init.length * 3 + 2, none⟩ = some (.int .i64 a) := by have h := ho.cells (g := b) rfl (init.length * 3 + 2) _ (by rw [tokCells_get init ⟨k, s, a⟩ [] 2 (by omega)]; rfl); rw [Addr.add_lit, Nat.zero_add] at h; exact h
    obtain ⟨_, ⟨m, hm⟩, _⟩ := hgl
    have hm' : ∀ o, (w.alloc o).cell? ⟨0, 0, none⟩ = some (.int .i64 m) := fun o => (((Below.refl w.heap.size w).alloc (Nat.le_refl _) o).cell (p := ⟨0, 0, none⟩) (World.block_lt_of_cell? w _ hm)).trans hm
    have hbel : ∀ o, Below w.heap.size w (w.alloc o) := fun o => (Below.refl w.heap.size w).alloc (Nat.le_refl _) o
    have HM := Lib.hid hm'
    have HBE := Lib.hid hbel
    have HFI := Lib.hid hfin
    have hil : init.length + 1 ≤ 1000000000 := by simpa using hn
    simp only [List.length_append, List.length_cons, List.length_nil, Nat.zero_add] at hc1 ⊢
    clear hm hm' hbel hfin hts ho hn
    by_cases h2 : k = 2
    · subst h2
      go_enter Tryz.func26, Tryz.ntmps26
      go_wp2_with fail
      go_ret
      exact ⟨ret_bool (by rw [HFI.out]; simp [endT]), HBE.out _⟩
    by_cases h4 : k = 4
    · subst h4
      go_enter Tryz.func26, Tryz.ntmps26
      go_wp2_with fail
      go_ret
      exact ⟨ret_bool (by rw [HFI.out]; simp [endT]), HBE.out _⟩
    by_cases h5 : k = 5
    · subst h5
      go_enter Tryz.func26, Tryz.ntmps26
      go_wp2_with fail
      go_ret
      exact ⟨ret_bool (by rw [HFI.out]; simp [endT]), HBE.out _⟩
    by_cases h6 : k = 6
    · subst h6
      go_enter Tryz.func26, Tryz.ntmps26
      go_wp2_with fail
      go_ret
      exact ⟨ret_bool (by rw [HFI.out]; simp [endT]), HBE.out _⟩
    by_cases h3 : k = 3
    · subst h3
      have hfin : Lib.contains endsL (32 :: (s ++ [32])) = R := by rw [HFI.out]; simp [endT]
      have HFI := Lib.hid hfin
      clear hfin
      go_enter Tryz.func26, Tryz.ntmps26
      go_wp2_with (go_at_call 54; refine (Tryz.strings_Contains _ _ m _ (by decide) (HM.out _)).mono ?_; rintro e w' ⟨rfl, rfl⟩)
      go_ret
      exact ⟨ret_bool (by rw [← HFI.out]; simp [endsL]), HBE.out _⟩
    by_cases h7 : k = 7
    · subst h7
      have hfin : Lib.contains endsL (32 :: (s ++ [32])) = R := by rw [HFI.out]; simp [endT]
      have HFI := Lib.hid hfin
      clear hfin
      go_enter Tryz.func26, Tryz.ntmps26
      go_wp2_with (go_at_call 54; refine (Tryz.strings_Contains _ _ m _ (by decide) (HM.out _)).mono ?_; rintro e w' ⟨rfl, rfl⟩)
      go_ret
      exact ⟨ret_bool (by rw [← HFI.out]; simp [endsL]), HBE.out _⟩
    have b2 : (k == 2) = false := by simpa using h2
    have b3 : (k == 3) = false := by simpa using h3
    have b4 : (k == 4) = false := by simpa using h4
    have b5 : (k == 5) = false := by simpa using h5
    have b6 : (k == 6) = false := by simpa using h6
    have b7 : (k == 7) = false := by simpa using h7
    have hfin : R = false := by rw [HFI.out]; simp [endT, h2, h3, h4, h5, h6, h7]
    have HFI := Lib.hid hfin
    clear hfin h2 h3 h4 h5 h6 h7
    go_enter Tryz.func26, Tryz.ntmps26
    go_wp2_with fail
    go_ret
    exact ⟨ret_bool HFI.out.symm, HBE.out _⟩
end Go.Proofs.YtokhfhibdeneeaaGreatDoor

namespace Go.Proofs.YtokhfhibdeneeaaGreatDoor
open Go.RowKit

theorem litR_next {at_ : Nat} : ∀ (n : Nat) (l : List UInt8) (i : Nat) (out : List UInt8) {x : List UInt8 × Nat}, l.length = n → litR at_ l i out = .ok x → i < x.2 ∧ x.2 ≤ i + l.length ∧ x.1.length ≤ out.length + l.length := by
  intro n
  induction n using Nat.strongRecOn with
  | ind n ih =>
    intro l i out x hl h
    cases l with
    | nil => rw [litR] at h; cases h
    | cons c r =>
      rw [litR] at h
      split at h
      · obtain rfl := Rd.ok.inj h
        simp
      · split at h
        · cases h
        · split at h
          · split at h
            · cases h
            · have hf := escS_fit r
              have h3 : (escS r).2 ≠ 0 := by assumption
              have hlen : (r.drop (escS r).2).length = r.length - (escS r).2 := List.length_drop
              have := ih _ (by simp at hl; omega) _ _ _ hlen h
              simp only [List.length_append, List.length_cons, List.length_nil] at this ⊢
              omega
          · have := ih r.length (by simp at hl; omega) r _ _ rfl h
            simp only [List.length_append, List.length_cons, List.length_nil] at this ⊢
            omega

theorem floatB_two {l : List UInt8} (h : floatB l = true) : ∃ d c r, l = d :: c :: r ∧ digitB c.toNat = true := by
  match l, h with
  | [], h => simp [floatB] at h
  | [_], h => simp [floatB] at h
  | d :: c :: r, h =>
    simp only [floatB, Bool.and_eq_true] at h
    exact ⟨d, c, r, rfl, h.2⟩
theorem numN_le (s : List UInt8) : numN s ≤ s.length := by
  have h1 := runN_le false s
  have h2 := runN_le false ((restL s).drop 1)
  have h3 : (restL s).length = s.length - runN false s := by unfold restL; rw [List.length_drop]
  rw [List.length_drop] at h2
  unfold numN
  by_cases hf : floatB (restL s) = true
  · rw [if_pos hf]
    obtain ⟨d, c, r, he, _⟩ := floatB_two hf
    have h5 : 2 ≤ (restL s).length := by rw [he]; simp
    have h4 : (partL s).length ≤ (restL s).length - 1 := by
      unfold partL
      rw [if_pos hf, List.length_take, List.length_drop]
      omega
    omega
  · rw [if_neg hf]
    omega
theorem signR_next {p : Nat} {s : List UInt8} : ∀ {xs : List (List UInt8)} {x : Tok × Nat}, (∀ z ∈ xs, z ≠ []) → signR p s xs = .ok x → p < x.2 ∧ x.2 ≤ p + s.length ∧ x.1.text.length ≤ s.length
  | [], x, _, h => by cases h
  | z :: zs, x, hz, h => by
    unfold signR at h
    split at h
    · rename_i hp
      obtain rfl := Rd.ok.inj h
      have hl : z.length ≤ s.length := (List.isPrefixOf_iff_prefix.1 hp).length_le
      have h0 : 0 < z.length := List.length_pos_iff.2 (hz z (by simp))
      simp only
      omega
    · exact signR_next (fun y hy => hz y (List.mem_cons_of_mem _ hy)) h

theorem oneR_next {p : Nat} {s : List UInt8} {x : Tok × Nat} (h : oneR p s = .ok x) : p < x.2 ∧ x.2 ≤ p + s.length ∧ x.1.text.length ≤ s.length := by
  cases s with
  | nil => cases h
  | cons c r =>
    rw [oneR] at h
    split at h
    · obtain rfl := Rd.ok.inj h; simp
    · split at h
      · cases hq : litR p r (p + 1) [] with
        | bad ec ea => rw [hq] at h; cases h
        | ok y =>
          rw [hq] at h
          obtain rfl := Rd.ok.inj h
          have := litR_next r.length r (p + 1) [] rfl hq
          simp at this ⊢
          omega
      · split at h
        · rename_i hd
          split at h
          · cases h
          · obtain rfl := Rd.ok.inj h
            have h1 := numN_le (c :: r)
            have h2 : 0 < numN (c :: r) := by
              unfold numN
              rw [runN_go (by simpa [runP] using hd)]
              omega
            simp only [List.length_take]
            omega
        · split at h
          · rename_i hl
            split at h
            · cases h
            · obtain rfl := Rd.ok.inj h
              have h1 := runN_le true (c :: r)
              have h2 : 0 < runN true (c :: r) := by rw [runN_go (by simp [runP, hl])]; omega
              simp only [List.length_take]
              omega
          · exact signR_next (by decide) h

/-- The tokens from a place on. -/
def scanR (p : Nat) (s : List UInt8) (ts : List Tok) : Rd (List Tok) :=
  match s with
  | [] => .ok (if endR ts then ts ++ [⟨1, [], p⟩] else ts)
  | c :: r =>
    if c = 10 then scanR (p + 1) r (if endR ts then ts ++ [⟨1, [], p⟩] else ts)
    else if c = 32 ∨ c = 9 then scanR (p + 1) r ts
    else if Lib.hasPrefix (c :: r) [47, 47] then
      (if 0 ≤ Lib.indexByte (c :: r) 10 then scanR (p + (Lib.indexByte (c :: r) 10).toNat) (r.drop ((Lib.indexByte (c :: r) 10).toNat - 1)) ts else scanR (p + (r.length + 1)) [] ts)
    else match oneR p (c :: r) with
      | .bad e a => .bad e a
      | .ok x => scanR x.2 (r.drop (x.2 - p - 1)) (ts ++ [x.1])
termination_by s.length
decreasing_by
  all_goals simp
  all_goals omega

/-- All tokens of a text. -/
def scanT (l : List UInt8) : Rd (List Tok) := if 60000 < l.length then .bad 13 0 else scanR 0 l []
end Go.Proofs.YtokhfhibdeneeaaGreatDoor

namespace Go.Proofs.YtokhfhibdeneeaaGreatDoor
open Go.RowKit

/-- What scanning ends as. -/
def ScanPost (w : World) (r : Rd (List Tok)) (e : Ending) (w' : World) : Prop := Below w.heap.size w w' ∧
  ((∃ ts v, r = .ok ts ∧ e = .returned (.tuple #[v, .nilIface]) ∧ w'.ownsRow w.heap.size 46 3 v ts.length (tokCells ts)) ∨
   (∃ c a b, r = .bad c a ∧ e = .returned (.tuple #[.slice none 0 0, .iface 43 (.pointer (some ⟨b, 0, none⟩))]) ∧ w.heap.size ≤ b ∧ ErrAt w' b c a))

/-- What has been scanned at the place j. -/
def ScanAt (l : List UInt8) (R : Rd (List Tok)) (j : Nat) (ts : List Tok) : Prop := (j ≤ l.length ∧ scanR j (l.drop j) ts = R) ∨ (j = l.length + 1 ∧ R = .ok ts)

set_option maxRecDepth 100000 in
set_option maxHeartbeats 8000000 in
theorem Scan_any (l : List UInt8) (w : World) (hgl : Gl w) (hbig : l.length ≤ 140737488351232) : Calls Tryz.prog 14 #[.string ⟨⟨l⟩⟩] w (ScanPost w (scanT l)) := by
  obtain ⟨R, HR⟩ : ∃ R, Hid (scanT l = R) := ⟨_, rfl⟩
  rw [HR.out]
  by_cases hlong : 60000 < l.length
  · have hfin : R = .bad 13 0 := by rw [← HR.out, scanT, if_pos hlong]
    have HFI := Lib.hid hfin
    clear hfin hgl
    go_enter Tryz.func14, Tryz.ntmps14
    go_wp2_with (go_at_call 25; refine (lexWrong_any _ _ _).mono ?_; rintro e w' ⟨rfl, hw'⟩; have HW := Lib.hid hw'; clear hw')
    go_ret2
    exact ⟨by rw [HW.out]; exact (Below.refl _ _).alloc (Nat.le_refl _) _, .inr ⟨13, 0, _, HFI.out, rfl, Nat.le_refl _, by rw [HW.out]; exact heap_alloc_new _ _⟩⟩
  have hfin : scanR 0 l [] = R := by rw [← HR.out, scanT, if_neg hlong]
  have HFI := Lib.hid hfin
  have hll : l.length ≤ 60000 := by omega
  obtain ⟨i0, hi, hz0, hz1, hz2⟩ := info_parts infoTok
  have HGL := Lib.hid hgl
  clear hfin hgl hlong hbig
  go_enter Tryz.func14, Tryz.ntmps14
  go_wp2_with fail
  go_loopw [4, 5] (fun o i wr => ∃ (j : Nat) (ts : List Tok), i = .int .i64 j ∧ j ≤ l.length + 1 ∧ ts.length ≤ j ∧ Hid (∀ t ∈ ts, t.text.length ≤ 1000000000) ∧ Hid (wr.ownsRow w.heap.size 46 3 o ts.length (tokCells ts)) ∧ Hid (ScanAt l R j ts) ∧ Below w.heap.size w wr) (fun _ i _ => l.length + 1 - (intOf i).toNat)
  case atStart => exact ⟨0, [], rfl, by omega, Nat.le_refl _, Lib.hid (by simp), Lib.hid (World.ownsRow_nil _ _ _ _), Lib.hid (.inl ⟨by omega, HFI.out⟩), Below.refl _ _⟩
  case round =>
    obtain ⟨j, ts, rfl, hj, htj, hts, ho, hat, hb⟩ := hrel
    obtain ⟨A, cap, rfl, hc1, hc2⟩ := row_form ho.out
    by_cases hend : j = l.length + 1
    · subst hend
      have hfin : R = .ok ts := by
        rcases hat.out with ⟨h, _⟩ | ⟨_, h⟩
        · omega
        · exact h
      have HFI := Lib.hid hfin
      clear hfin
      go_wp2_with fail
      go_ret2
      exact ⟨hb, .inl ⟨ts, _, HFI.out, rfl, ho.out⟩⟩
    have hjl : j ≤ l.length := by omega
    have hat' : scanR j (l.drop j) ts = R := by
      rcases hat.out with ⟨_, h⟩ | ⟨h, _⟩
      · exact h
      · omega
    have HAT := Lib.hid hat'
    clear hat' hat hend hj
    obtain ⟨nl, HNL⟩ : ∃ nl, Hid ((decide (j = l.length) || l[j]? == some 10) = nl) := ⟨_, rfl⟩
    go_upto_region 11 with fail
    go_cut [35] (fun t wx => t = .bool nl ∧ wx = wr)
    case first =>
      by_cases he : j = l.length
      · obtain rfl : true = nl := by rw [← HNL.out]; simp [he]
        subst he
        go_wp2_with fail
        go_meet
        exact ⟨rfl, rfl⟩
      · obtain ⟨c, hc⟩ : ∃ c, l[j]? = some c := ⟨l[j], List.getElem?_eq_getElem (by omega)⟩
        have hix := ba_at l j c hc
        have HC := Lib.hid hc
        clear hc
        have hne : ((j : Int) == l.length) = false := by simp; omega
        by_cases h10 : c = 10
        · obtain rfl : true = nl := by rw [← HNL.out, HC.out]; simp [h10]
          subst h10
          go_wp2_with fail
          go_meet
          exact ⟨rfl, rfl⟩
        · obtain rfl : false = nl := by rw [← HNL.out, HC.out]; simp [h10, he]
          have n10 : ((c.toNat : Int) == 10) = false := u8_ne h10
          go_wp2_with fail
          go_meet
          exact ⟨rfl, rfl⟩
    case rest =>
      obtain ⟨rfl, rfl⟩ := hcut
      have hbs := hb.size
      cases nl with
      | true =>
        have hnext : ∀ ts', (if endR ts then ts ++ [⟨1, [], j⟩] else ts) = ts' → ScanAt l R (j + 1) ts' := by
          intro ts' e
          by_cases he : j = l.length
          · right
            refine ⟨by omega, ?_⟩
            rw [← HAT.out, he, List.drop_length, scanR, ← he, e]
          · left
            refine ⟨by omega, ?_⟩
            have h1 := HNL.out
            rw [decide_eq_false he] at h1
            obtain ⟨c, hc⟩ : ∃ c, l[j]? = some c := ⟨l[j], List.getElem?_eq_getElem (by omega)⟩
            rw [hc] at h1
            obtain rfl : c = 10 := by simpa using h1
            rw [← HAT.out, drop_cons hc]
            conv => rhs; rw [scanR, if_pos rfl, e]
        obtain ⟨en, HEN⟩ : ∃ en, Hid (endR ts = en) := ⟨_, rfl⟩
        rw [HEN.out] at hnext
        have HNX := Lib.hid hnext
        have hec := ending_any ts _ w.heap.size wc (HGL.out.up hb) ho.out (by omega) hts.out
        rw [HEN.out] at hec
        have HEC := Lib.hid hec
        clear hnext hec
        cases en with
        | true =>
          go_wp2_with (first
            | (go_at_call 26; refine HEC.out.mono ?_; rintro e w4 ⟨rfl, hb4⟩; have ho4 := Lib.hid (row_under hb4 ho.out); have hb4s := hb4.size)
            | (at_builtin; refine wpList_append_own _ rfl _ _ 40 rfl w.heap.size 46 i0 _ 3 32 Tryz.underlying40 hi hz0 hz1 hz2 rfl (by decide) _ _ _ rfl (ho4.out.alloc _) ⟨w4.heap.size, 0, none⟩ 1 1 (Tok.cells ⟨1, [], j⟩) rfl rfl (Tok.news ⟨1, [], j⟩ w4) (Tok.oneCells _) (by unfold maxLen; omega) (by omega) (by simp; omega) ?_; intro v1 w1 ho1 hg1 _))
          have hb4' : Below w.heap.size w w4 := hb.trans (hb4.mono hbs)
          have hb1 : Below w.heap.size w w1 := grown_below (hb4'.alloc hb4'.size _) (ho4.out.alloc _) (by have := hb4'.size; simp; omega) hg1
          go_wp2_with fail
          go_roundw
          case rel =>
            refine ⟨j + 1, ts ++ [⟨1, [], j⟩], by go_num, by omega, by simp; omega, Lib.hid ?_, Lib.hid (by rw [tokCells_append, tokCells_one]; simpa using ho1), Lib.hid (HNX.out _ rfl), hb1⟩
            intro t ht
            rcases List.mem_append.1 ht with h | h
            · exact hts.out t h
            · obtain rfl := List.mem_singleton.1 h
              simp
          case measure => simp [intOf]; omega
        | false =>
          go_wp2_with (go_at_call 26; refine HEC.out.mono ?_; rintro e w4 ⟨rfl, hb4⟩; have ho4 := Lib.hid (row_under hb4 ho.out); have hb4s := hb4.size)
          go_roundw
          case rel => exact ⟨j + 1, ts, by go_num, by omega, by omega, hts, ho4, Lib.hid (HNX.out _ rfl), hb.trans (hb4.mono hbs)⟩
          case measure => simp [intOf]; omega
      | false =>
        have hne : ¬ j = l.length := by
          intro e
          have h1 := HNL.out
          rw [decide_eq_true e] at h1
          simp at h1
        obtain ⟨c, hc⟩ : ∃ c, l[j]? = some c := ⟨l[j], List.getElem?_eq_getElem (by omega)⟩
        have h10 : ¬ c = 10 := by
          intro e
          have h1 := HNL.out
          rw [hc, e] at h1
          simp at h1
        have hix := ba_at l j c hc
        have hdr := drop_cons hc
        have hat2 := HAT.out
        have HDR := Lib.hid hdr
        have hlt : j < l.length := by omega
        clear hc hdr hne
        by_cases h32 : c = 32 ∨ c = 9
        · have hfin : scanR (j + 1) (l.drop (j + 1)) ts = R := by
            rw [← hat2, HDR.out]
            conv => rhs; rw [scanR, if_neg h10, if_pos h32]
          have HFI := Lib.hid hfin
          clear hfin hat2
          rcases h32 with rfl | rfl
          · go_wp2_with fail
            go_roundw
            case rel => exact ⟨j + 1, ts, by go_num, by omega, by omega, hts, ho, Lib.hid (.inl ⟨by omega, HFI.out⟩), hb⟩
            case measure => simp [intOf]; omega
          · go_wp2_with fail
            go_roundw
            case rel => exact ⟨j + 1, ts, by go_num, by omega, by omega, hts, ho, Lib.hid (.inl ⟨by omega, HFI.out⟩), hb⟩
            case measure => simp [intOf]; omega
        have n32 : ((c.toNat : Int) == 32) = false := u8_ne (fun e => h32 (.inl e))
        have n9 : ((c.toNat : Int) == 9) = false := u8_ne (fun e => h32 (.inr e))
        obtain ⟨s, HS⟩ : ∃ s, Hid (l.drop j = s) := ⟨_, rfl⟩
        have x1 := ba_drop l j
        rw [HS.out] at x1
        have hpre := Tryz.strings_HasPrefix ⟨⟨s⟩⟩ ⟨#[47, 47]⟩ wc
        have e1 : (⟨⟨s⟩⟩ : ByteArray).data.toList = s := rfl
        have e2 : (⟨#[47, 47]⟩ : ByteArray).data.toList = [47, 47] := rfl
        rw [e1, e2] at hpre
        obtain ⟨pf, HPF⟩ : ∃ pf, Hid (Lib.hasPrefix s [47, 47] = pf) := ⟨_, rfl⟩
        rw [HPF.out] at hpre
        have HPRE := Lib.hid hpre
        clear e2 hpre
        cases pf with
        | true =>
          have hpf2 : Lib.hasPrefix (c :: l.drop (j + 1)) [47, 47] = true := by rw [← HDR.out, HS.out]; exact HPF.out
          have hib := Tryz.strings_IndexByte ⟨⟨s⟩⟩ 10 wc
          have e3 : ((10 : Int).toNat.toUInt8) = 10 := rfl
          rw [e1, e3] at hib
          obtain ⟨ib, HIB⟩ : ∃ ib, Hid (Lib.indexByte s 10 = ib) := ⟨_, rfl⟩
          rw [HIB.out] at hib
          have hge := Lib.indexByte_ge s 10
          rw [HIB.out] at hge
          have hsl : s.length = l.length - j := by rw [← HS.out, List.length_drop]
          have hsc : s = c :: l.drop (j + 1) := by rw [← HS.out]; exact HDR.out
          have hscan : (if 0 ≤ ib then scanR (j + ib.toNat) ((l.drop (j + 1)).drop (ib.toNat - 1)) ts else scanR (j + ((l.drop (j + 1)).length + 1)) [] ts) = R := by
            rw [← hat2]
            conv => rhs; rw [HDR.out, scanR, if_neg h10, if_neg h32, if_pos hpf2, ← hsc, HIB.out]
          have HSC := Lib.hid hscan
          have HIBC := Lib.hid hib
          have HSL := Lib.hid hsl
          clear hib e1 e3 hat2 hpf2 hscan hsl
          by_cases h0 : 0 ≤ ib
          · have hpos : 1 ≤ ib ∧ ib < (l.length : Int) - j := by
              obtain ⟨o, rfl⟩ := Int.eq_ofNat_of_zero_le h0
              have h1 := (Lib.indexByte_some HIB.out).1
              have h2 := (List.getElem?_eq_some_iff.1 h1).1
              rw [HSL.out] at h2
              have h3 : o ≠ 0 := by
                rintro rfl
                rw [hsc] at h1
                exact h10 (by simpa using h1)
              omega
            have hfin : scanR (j + ib.toNat) (l.drop (j + ib.toNat)) ts = R := by
              have h := HSC.out
              rw [if_pos h0, List.drop_drop, show j + 1 + (ib.toNat - 1) = j + ib.toNat by omega] at h
              exact h
            have HFI := Lib.hid hfin
            clear hfin hsc
            go_wp2_with (first
              | (go_at_call 27; refine HPRE.out.mono ?_; rintro e w2 ⟨rfl, rfl⟩)
              | (go_at_call 28; refine HIBC.out.mono ?_; rintro e w2 ⟨rfl, rfl⟩))
            go_roundw
            case rel => exact ⟨j + ib.toNat, ts, by congr 1; omega, by omega, by omega, hts, ho, Lib.hid (.inl ⟨by omega, HFI.out⟩), hb⟩
            case measure => simp [intOf]; omega
          · have hfin : scanR l.length [] ts = R := by
              have h := HSC.out
              rw [if_neg h0, List.length_drop, show j + (l.length - (j + 1) + 1) = l.length by omega] at h
              exact h
            have HFI := Lib.hid hfin
            clear hfin hsc
            go_wp2_with (first
              | (go_at_call 27; refine HPRE.out.mono ?_; rintro e w2 ⟨rfl, rfl⟩)
              | (go_at_call 28; refine HIBC.out.mono ?_; rintro e w2 ⟨rfl, rfl⟩))
            go_roundw
            case rel => exact ⟨l.length, ts, rfl, by omega, by omega, hts, ho, Lib.hid (.inl ⟨by omega, by rw [List.drop_length]; exact HFI.out⟩), hb⟩
            case measure => simp [intOf]; omega
        | false =>
          have hpf2 : Lib.hasPrefix (c :: l.drop (j + 1)) [47, 47] = false := by rw [← HDR.out, HS.out]; exact HPF.out
          have hone := one_any l j wc (HGL.out.up hb) hlt (by omega)
          obtain ⟨Q, HQ⟩ : ∃ Q, Hid (oneR j (l.drop j) = Q) := ⟨_, rfl⟩
          rw [HQ.out] at hone
          have hbad : ∀ e a, Q = .bad e a → R = .bad e a := by
            intro e a hq
            rw [← hat2, HDR.out, scanR, if_neg h10, if_neg h32, if_neg (by rw [hpf2]; simp), ← HDR.out, HQ.out, hq]
          have hok : ∀ x, Q = .ok x → scanR x.2 ((l.drop (j + 1)).drop (x.2 - j - 1)) (ts ++ [x.1]) = R := by
            intro x hq
            rw [← hat2]
            conv => rhs; rw [HDR.out, scanR, if_neg h10, if_neg h32, if_neg (by rw [hpf2]; simp), ← HDR.out, HQ.out, hq]
          have HBAD := Lib.hid hbad
          have HOK := Lib.hid hok
          have HON := Lib.hid hone
          clear hone e1 hat2 hpf2 hbad hok
          cases Q with
          | bad ec ea =>
            go_wp2_with (first
              | (go_at_call 27; refine HPRE.out.mono ?_; rintro e w2 ⟨rfl, rfl⟩)
              | (go_at_call 29; refine HON.out.mono ?_
                 rintro e w4 ⟨hb4, h⟩
                 obtain ⟨c', a', ⟨tk, tt, ta⟩, nx, eb, hq, rfl, hge, herr⟩ := h.resolve_left (by rintro ⟨_, _, h, _⟩; cases h)
                 obtain ⟨rfl, rfl⟩ := Rd.bad.inj hq
                 have HERR := Lib.hid herr
                 have HB4 := Lib.hid hb4
                 dsimp only [Tok.val]
                 clear h hq herr hb4))
            go_ret2
            have hbs4 := HB4.out.size
            exact ⟨(hb.trans (HB4.out.mono hbs)).alloc (by omega) _, .inr ⟨_, _, eb, HBAD.out _ _ rfl, rfl, by omega, (heap_alloc_old _ _ (Array.getElem?_eq_some_iff.1 HERR.out).1).trans HERR.out⟩⟩
          | ok x =>
            obtain ⟨⟨tk, tt, ta⟩, nx⟩ := x
            have hnx := oneR_next HQ.out
            rw [List.length_drop] at hnx
            dsimp only at hnx
            have hfin : scanR nx (l.drop nx) (ts ++ [⟨tk, tt, ta⟩]) = R := by
              have h := HOK.out _ rfl
              rw [List.drop_drop] at h
              dsimp only at h
              rw [show j + 1 + (nx - j - 1) = nx by omega] at h
              exact h
            have HFI := Lib.hid hfin
            clear hfin
            go_wp2_with (first
              | (go_at_call 27; refine HPRE.out.mono ?_; rintro e w2 ⟨rfl, rfl⟩)
              | (go_at_call 29; refine HON.out.mono ?_
                 rintro e w4 ⟨hb4, h⟩
                 obtain ⟨t', nx', hq, rfl⟩ := h.resolve_right (by rintro ⟨_, _, _, _, _, h, _⟩; cases h)
                 obtain ⟨rfl, rfl⟩ := Prod.mk.inj (Rd.ok.inj hq)
                 have ho4 := Lib.hid (row_under hb4 ho.out)
                 have hb4s := hb4.size
                 dsimp only [Tok.val]
                 clear h hq)
              | (at_builtin; refine wpList_append_own _ rfl _ _ 40 rfl w.heap.size 46 i0 _ 3 32 Tryz.underlying40 hi hz0 hz1 hz2 rfl (by decide) _ _ _ rfl ((ho4.out.alloc _).alloc _) ⟨w4.heap.size + 1, 0, none⟩ 1 1 (Tok.cells ⟨tk, tt, ta⟩) rfl rfl (by simpa using Tok.news ⟨tk, tt, ta⟩ (w4.alloc _)) (Tok.oneCells _) (by unfold maxLen; omega) (by omega) (by simp; omega) ?_; intro v1 w1 ho1 hg1 _))
            have hb4' : Below w.heap.size w w4 := hb.trans (hb4.mono hbs)
            have hb1 : Below w.heap.size w w1 := grown_below ((hb4'.alloc hb4'.size _).alloc (by have := hb4'.size; simp; omega) _) ((ho4.out.alloc _).alloc _) (by have := hb4'.size; simp; omega) hg1
            go_wp2_with fail
            go_roundw
            case rel =>
              refine ⟨nx, ts ++ [⟨tk, tt, ta⟩], rfl, by omega, by simp; omega, Lib.hid ?_, Lib.hid (by rw [tokCells_append, tokCells_one]; simpa using ho1), Lib.hid (.inl ⟨by omega, HFI.out⟩), hb1⟩
              intro t ht
              rcases List.mem_append.1 ht with h | h
              · exact hts.out t h
              · obtain rfl := List.mem_singleton.1 h
                dsimp only
                omega
            case measure => simp [intOf]; omega
end Go.Proofs.YtokhfhibdeneeaaGreatDoor

namespace Go.Proofs.YtokhfhibdeneeaaGreatDoor

theorem escS_pre {r x y : List UInt8} (h0 : (escS (r ++ x)).2 ≠ 0) (h : (escS (r ++ x)).2 ≤ r.length) : escS (r ++ y) = escS (r ++ x) := by
  cases r with
  | nil => exact absurd (Nat.le_zero.1 h) h0
  | cons c r =>
    simp only [List.cons_append, escS] at h0 h ⊢
    split
    · rfl
    rename_i h1
    rw [if_neg h1] at h0 h
    split
    · rfl
    rename_i h2
    rw [if_neg h2] at h0 h
    split
    · rfl
    rename_i h3
    rw [if_neg h3] at h0 h
    split
    · rename_i h4
      rw [if_pos h4] at h0 h
      cases r with
      | nil =>
        exfalso
        cases x with
        | nil => simp at h0
        | cons a x =>
          cases x with
          | nil => simp at h0
          | cons b x =>
            simp only [List.nil_append] at h0 h
            split at h
            · simp at h
            · rename_i h5; rw [if_neg h5] at h0; simp at h0
      | cons a r =>
        cases r with
        | nil =>
          exfalso
          cases x with
          | nil => simp at h0
          | cons b x =>
            simp only [List.cons_append, List.nil_append] at h0 h
            split at h
            · simp at h
            · rename_i h5; rw [if_neg h5] at h0; simp at h0
        | cons b r => rfl
    · rfl

theorem litR_pre {at_ : Nat} {x y : List UInt8} : ∀ (n : Nat) (a : List UInt8) (i : Nat) (out : List UInt8) {o : List UInt8} {q : Nat}, a.length = n → litR at_ (a ++ x) i out = .ok (o, q) → q ≤ i + a.length → litR at_ (a ++ y) i out = .ok (o, q) := by
  intro n
  induction n using Nat.strongRecOn with
  | ind n ih =>
    intro a i out o q hn h hq
    cases a with
    | nil =>
      have := (litR_next _ _ _ _ rfl h).1
      simp at hq
      omega
    | cons c r =>
      simp only [List.cons_append] at h ⊢
      rw [litR] at h ⊢
      simp only [List.length_cons] at hn hq
      split at h
      · rename_i h1
        rw [if_pos h1]
        exact h
      rename_i h1
      rw [if_neg h1]
      split at h
      · cases h
      rename_i h2
      rw [if_neg h2]
      split at h
      · rename_i h3
        rw [if_pos h3]
        split at h
        · cases h
        rename_i h4
        have h5 := (litR_next _ _ _ _ rfl h).1
        have h6 : (escS (r ++ x)).2 ≤ r.length := by
          simp only at h5
          omega
        have he : escS (r ++ y) = escS (r ++ x) := escS_pre h4 h6
        rw [he, if_neg h4]
        rw [List.drop_append_of_le_length h6] at h ⊢
        exact ih _ (by rw [List.length_drop]; omega) _ _ _ rfl h (by rw [List.length_drop]; omega)
      · rename_i h3
        rw [if_neg h3]
        exact ih _ (by omega) _ _ _ rfl h (by omega)

theorem runN_blank {b : Bool} {y : List UInt8} : ∀ a : List UInt8, runN b (a ++ 32 :: y) = runN b a
  | [] => by cases b <;> rfl
  | c :: r => by
    simp only [List.cons_append, runN]
    rw [runN_blank r]
theorem runN_pre {b : Bool} {x : List UInt8} : ∀ a : List UInt8, runN b (a ++ x) ≤ a.length → runN b (a ++ x) = runN b a
  | [], h => by simp at h; simp [h, runN]
  | c :: r, h => by
    simp only [List.cons_append, runN] at h ⊢
    split
    · rename_i hc
      rw [if_pos hc] at h
      rw [runN_pre r (by simp at h; omega)]
    · rfl
theorem runN_same {b : Bool} {x y : List UInt8} {a : List UInt8} (h : runN b (a ++ x) ≤ a.length) : runN b (a ++ 32 :: y) = runN b (a ++ x) := by
  rw [runN_blank, runN_pre a h]
theorem take_pre {α : Type} {n : Nat} {a x y : List α} (h : n ≤ a.length) : (a ++ x).take n = (a ++ y).take n := by
  rw [List.take_append_of_le_length h, List.take_append_of_le_length h]

theorem hasPrefix_split {a x z : List UInt8} (h : z.length ≤ a.length) : Lib.hasPrefix (a ++ x) z = Lib.hasPrefix a z := by
  have h1 : Lib.hasPrefix (a ++ x) z = true ↔ Lib.hasPrefix a z = true := by
    constructor
    · intro h'
      have h2 := List.isPrefixOf_iff_prefix.1 h'
      exact List.isPrefixOf_iff_prefix.2 (List.prefix_of_prefix_length_le h2 (List.prefix_append a x) h)
    · intro h'
      exact List.isPrefixOf_iff_prefix.2 ((List.isPrefixOf_iff_prefix.1 h').trans (List.prefix_append a x))
  cases hb : Lib.hasPrefix a z with
  | true => exact h1.2 hb
  | false =>
    cases hb' : Lib.hasPrefix (a ++ x) z with
    | false => rfl
    | true => rw [h1.1 hb'] at hb; cases hb
/-- A sign that has no blank does not go over one. -/
theorem hasPrefix_blank {a y z : List UInt8} (hz : 32 ∉ z) : Lib.hasPrefix (a ++ 32 :: y) z = Lib.hasPrefix a z := by
  rcases Nat.lt_or_ge a.length z.length with h | h
  · have h1 : Lib.hasPrefix (a ++ 32 :: y) z = false := by
      cases hb : Lib.hasPrefix (a ++ 32 :: y) z with
      | false => rfl
      | true =>
        exfalso
        obtain ⟨t, ht⟩ := List.isPrefixOf_iff_prefix.1 hb
        have : z[a.length]? = some 32 := by
          have h2 : (z ++ t)[a.length]? = (a ++ 32 :: y)[a.length]? := by rw [ht]
          rw [List.getElem?_append_left h, List.getElem?_append_right (Nat.le_refl _)] at h2
          simpa using h2
        exact hz (List.mem_of_getElem? this)
    have h2 : Lib.hasPrefix a z = false := by
      cases hb : Lib.hasPrefix a z with
      | false => rfl
      | true =>
        have := (List.isPrefixOf_iff_prefix.1 hb).length_le
        omega
    rw [h1, h2]
  · exact hasPrefix_split h

theorem signR_pre {p : Nat} {a x y : List UInt8} {t : Tok} {q : Nat} : ∀ {zs : List (List UInt8)}, (∀ z ∈ zs, 32 ∉ z) → signR p (a ++ x) zs = .ok (t, q) → q ≤ p + a.length → signR p (a ++ 32 :: y) zs = .ok (t, q)
  | [], _, h, _ => by cases h
  | z :: zs, hz, h, hq => by
    rw [signR] at h ⊢
    rw [hasPrefix_blank (hz z (List.mem_cons_self ..))]
    cases hp : Lib.hasPrefix (a ++ x) z with
    | true =>
      rw [hp] at h
      simp only [if_true] at h
      have h' := Rd.ok.inj h
      have hq' : p + z.length = q := congrArg Prod.snd h'
      rw [← hasPrefix_split (x := x) (by omega), hp]
      simp only [if_true]
      exact h
    | false =>
      rw [hp] at h
      have hp' : Lib.hasPrefix a z = false := by
        cases hb : Lib.hasPrefix a z with
        | false => rfl
        | true =>
          rw [← hasPrefix_split (x := x) (List.isPrefixOf_iff_prefix.1 hb).length_le, hp] at hb
          cases hb
      rw [hp']
      simp only [Bool.false_eq_true, if_false] at h ⊢
      exact signR_pre (fun z hz' => hz z (List.mem_cons_of_mem _ hz')) h hq

theorem numN_ge (s : List UInt8) : runN false s ≤ numN s := Nat.le_add_right _ _
theorem floatB_pre {a x y : List UInt8} (h : floatB (a ++ x) = true → 2 ≤ a.length) : floatB (a ++ 32 :: y) = floatB (a ++ x) := by
  cases a with
  | nil =>
    have h1 : floatB ([] ++ x) = false := by
      cases hb : floatB ([] ++ x) with
      | false => rfl
      | true => have := h hb; simp at this
    rw [h1]
    cases y with
    | nil => rfl
    | cons d y => simp [floatB]
  | cons c a =>
    cases a with
    | nil =>
      have h1 : floatB ([c] ++ x) = false := by
        cases hb : floatB ([c] ++ x) with
        | false => rfl
        | true => have := h hb; simp at this
      rw [h1]
      simp only [List.cons_append, List.nil_append, floatB]
      have : digitB ((32 : UInt8).toNat : Int) = false := by decide
      rw [this, Bool.and_false]
    | cons d a => rfl

theorem part_pos {l : List UInt8} (h : floatB l = true) : 1 ≤ ((l.drop 1).take (runN false (l.drop 1))).length := by
  obtain ⟨d, c, r, rfl, hc⟩ := floatB_two h
  rw [List.length_take]
  have := runN_go (letters := false) (c := c) (r := r) (by simp [runP, hc])
  simp only [List.drop_succ_cons, List.drop_zero, this, List.length_cons]
  omega
theorem num_pre {a x y : List UInt8} (hn : numN (a ++ x) ≤ a.length) (hb : numBad (a ++ x) = false) :
    numBad (a ++ 32 :: y) = false ∧ numKind (a ++ 32 :: y) = numKind (a ++ x) ∧ numN (a ++ 32 :: y) = numN (a ++ x) := by
  have h1 : runN false (a ++ x) ≤ a.length := Nat.le_trans (numN_ge _) hn
  have e1 : runN false (a ++ 32 :: y) = runN false (a ++ x) := runN_same h1
  have ew : whL (a ++ 32 :: y) = whL (a ++ x) := by unfold whL; rw [e1, take_pre h1]
  have er : restL (a ++ x) = a.drop (runN false (a ++ x)) ++ x := by unfold restL; rw [List.drop_append_of_le_length h1]
  have er' : restL (a ++ 32 :: y) = a.drop (runN false (a ++ x)) ++ 32 :: y := by unfold restL; rw [e1, List.drop_append_of_le_length h1]
  have hf : floatB (restL (a ++ x)) = true → 2 ≤ (a.drop (runN false (a ++ x))).length := fun hf => by
    have h2 := hn
    unfold numN at h2
    rw [if_pos hf] at h2
    have h3 := part_pos hf
    have h4 : partL (a ++ x) = ((restL (a ++ x)).drop 1).take (runN false ((restL (a ++ x)).drop 1)) := by unfold partL; rw [if_pos hf]
    rw [← h4] at h3
    rw [List.length_drop]
    omega
  have ef : floatB (restL (a ++ 32 :: y)) = floatB (restL (a ++ x)) := by
    rw [er, er']
    rw [er] at hf
    exact floatB_pre hf
  have ep : partL (a ++ 32 :: y) = partL (a ++ x) := by
    unfold partL
    rw [ef]
    cases hfl : floatB (restL (a ++ x)) with
    | false => rfl
    | true =>
      simp only [if_true]
      have h2 := hf hfl
      have h3 := hn
      unfold numN at h3
      rw [if_pos hfl] at h3
      unfold partL at h3
      rw [if_pos hfl] at h3
      rw [er] at h3 ⊢
      rw [er']
      rw [List.drop_append_of_le_length (by omega)] at h3 ⊢
      rw [List.drop_append_of_le_length (by omega)]
      have h4 : runN false ((a.drop (runN false (a ++ x))).drop 1 ++ x) ≤ ((a.drop (runN false (a ++ x))).drop 1).length := by
        rw [List.length_take, Nat.min_eq_left (runN_le _ _)] at h3
        rw [List.length_drop, List.length_drop]
        omega
      rw [runN_same h4, take_pre h4]
  have en : numN (a ++ 32 :: y) = numN (a ++ x) := by unfold numN; rw [e1, ef, ep]
  refine ⟨?_, by unfold numKind; rw [ef], en⟩
  have hb2 := hb
  unfold numBad at hb2 ⊢
  rw [ef, ew, ep, en]
  have hz : runN true ((a ++ x).drop (numN (a ++ x))) = 0 := by
    have : decide (0 < runN true ((a ++ x).drop (numN (a ++ x)))) = false := by
      simp only [Bool.or_eq_false_iff] at hb2
      exact hb2.1.1.2
    have := of_decide_eq_false this
    omega
  have hz' : runN true ((a ++ 32 :: y).drop (numN (a ++ x))) = runN true ((a ++ x).drop (numN (a ++ x))) := by
    rw [List.drop_append_of_le_length hn] at hz ⊢
    rw [List.drop_append_of_le_length hn]
    exact runN_same (by rw [hz]; exact Nat.zero_le _)
  rw [hz']
  exact hb2

theorem signL_blank : ∀ z ∈ signL, (32 : UInt8) ∉ z := by decide
theorem oneR_pre {p : Nat} {a x y : List UInt8} {t : Tok} {q : Nat} (h : oneR p (a ++ x) = .ok (t, q)) (hq : q ≤ p + a.length) : oneR p (a ++ 32 :: y) = .ok (t, q) := by
  cases a with
  | nil =>
    have := (oneR_next h).1
    simp at hq
    simp only at this
    omega
  | cons c r =>
    simp only [List.cons_append] at h ⊢
    rw [oneR] at h ⊢
    split
    · rename_i h1
      rw [if_pos h1] at h
      exact h
    rename_i h1
    rw [if_neg h1] at h
    split
    · rename_i h2
      rw [if_pos h2] at h
      cases hl : litR p (r ++ x) (p + 1) [] with
      | bad e b => rw [hl] at h; cases h
      | ok z =>
        rw [hl] at h
        obtain ⟨o, q'⟩ := z
        have h' := Rd.ok.inj h
        have hq' : q' = q := congrArg Prod.snd h'
        subst hq'
        rw [litR_pre _ r (p + 1) [] rfl hl (by simp at hq; omega)]
        exact h
    rename_i h2
    rw [if_neg h2] at h
    split
    · rename_i h3
      rw [if_pos h3] at h
      split at h
      · cases h
      rename_i h4
      have h' := Rd.ok.inj h
      have hq' : p + ((c :: (r ++ x)).take (numN (c :: (r ++ x)))).length = q := congrArg Prod.snd h'
      have hn : numN ((c :: r) ++ x) ≤ (c :: r).length := by
        rw [List.length_take, Nat.min_eq_left (numN_le _)] at hq'
        simp only [List.cons_append]
        omega
      obtain ⟨g1, g2, g3⟩ := num_pre (y := y) hn (by simpa using h4)
      have g4 := take_pre (x := x) (y := 32 :: y) hn
      simp only [List.cons_append] at g1 g2 g3 g4
      rw [g1, g2, g3, ← g4]
      exact h
    rename_i h3
    rw [if_neg h3] at h
    split
    · rename_i h4
      rw [if_pos h4] at h
      split at h
      · cases h
      rename_i h5
      have h' := Rd.ok.inj h
      have hq' : p + runN true (c :: (r ++ x)) = q := congrArg Prod.snd h'
      have hn : runN true ((c :: r) ++ x) ≤ (c :: r).length := by simp only [List.cons_append]; omega
      have g1 := runN_same (y := y) hn
      have g2 := take_pre (x := x) (y := 32 :: y) hn
      simp only [List.cons_append] at g1 g2
      rw [g1, ← g2, if_neg h5]
      exact h
    rename_i h4
    rw [if_neg h4] at h
    exact signR_pre (a := c :: r) signL_blank h hq

theorem signR_at {p : Nat} {s : List UInt8} : ∀ {zs : List (List UInt8)} {t : Tok × Nat}, signR p s zs = .ok t → t.1.at_ = p
  | [], _, h => by cases h
  | z :: zs, _, h => by
    rw [signR] at h
    split at h
    · obtain rfl := Rd.ok.inj h; rfl
    · exact signR_at h
theorem oneR_at {p : Nat} {s : List UInt8} {t : Tok × Nat} (h : oneR p s = .ok t) : t.1.at_ = p := by
  cases s with
  | nil => cases h
  | cons c r =>
    rw [oneR] at h
    split at h
    · obtain rfl := Rd.ok.inj h; rfl
    split at h
    · cases hl : litR p r (p + 1) [] with
      | bad e b => rw [hl] at h; cases h
      | ok z => rw [hl] at h; obtain rfl := Rd.ok.inj h; rfl
    split at h
    · split at h
      · cases h
      · obtain rfl := Rd.ok.inj h; rfl
    split at h
    · split at h
      · cases h
      · obtain rfl := Rd.ok.inj h; rfl
    exact signR_at h
end Go.Proofs.YtokhfhibdeneeaaGreatDoor

namespace Go.Proofs.YtokhfhibdeneeaaGreatDoor

theorem ixb_lt : ∀ (r : List UInt8) (d c : UInt8), Lib.indexByte (d :: r) c < r.length + 1
  | [], d, c => by
    unfold Lib.indexByte
    split
    · simp
    · simp [Lib.indexByte]
  | e :: r, d, c => by
    have h := ixb_lt r e c
    rw [Lib.indexByte]
    split
    · simp only [List.length_cons]; omega
    · split
      · simp only [List.length_cons]; omega
      · simp only [List.length_cons]; omega
theorem ixb_mem : ∀ {l : List UInt8} {c : UInt8}, c ∈ l → 0 ≤ Lib.indexByte l c
  | [], _, h => by cases h
  | d :: r, c, h => by
    rw [Lib.indexByte]
    split
    · omega
    · rename_i hd
      have hr : c ∈ r := by
        rcases List.mem_cons.1 h with rfl | h
        · simp at hd
        · exact h
      have h2 := ixb_mem hr
      rw [if_neg (by simp; omega)]
      omega
theorem ixb_zero {r : List UInt8} {d c : UInt8} (h0 : 0 ≤ Lib.indexByte (d :: r) c) (h : (Lib.indexByte (d :: r) c).toNat = 0) : d = c := by
  rw [Lib.indexByte] at h h0
  split at h
  · rename_i hd
    simpa using hd
  · rename_i hd
    rw [if_neg hd] at h0
    have := Lib.indexByte_ge r c
    split at h0
    · omega
    · rename_i h1
      rw [if_neg h1] at h
      simp at h1
      omega
theorem ixb_pre : ∀ {a x : List UInt8} {c : UInt8}, c ∈ a → Lib.indexByte (a ++ x) c = Lib.indexByte a c
  | [], _, _, h => by cases h
  | d :: r, x, c, h => by
    rw [List.cons_append, Lib.indexByte, Lib.indexByte]
    split
    · rfl
    · rename_i hd
      have hr : c ∈ r := by
        rcases List.mem_cons.1 h with rfl | h
        · simp at hd
        · exact h
      rw [ixb_pre hr]
theorem ixb_late : ∀ {a x : List UInt8} {c : UInt8}, c ∉ a → 0 ≤ Lib.indexByte (a ++ x) c → a.length ≤ (Lib.indexByte (a ++ x) c).toNat
  | [], _, _, _, _ => Nat.zero_le _
  | d :: r, x, c, h, h0 => by
    rw [List.cons_append, Lib.indexByte] at h0 ⊢
    have hd : (d == c) = false := by
      cases hb : d == c with
      | false => rfl
      | true => exact absurd (List.mem_cons.2 (.inl (by have := eq_of_beq hb; exact this.symm))) h
    rw [hd] at h0 ⊢
    simp only [Bool.false_eq_true, if_false] at h0 ⊢
    split at h0
    · omega
    · rename_i h1
      rw [if_neg h1]
      have hg := Lib.indexByte_ge (r ++ x) c
      simp at h1
      have := ixb_late (a := r) (x := x) (c := c) (fun hm => h (List.mem_cons_of_mem _ hm)) (by omega)
      simp only [List.length_cons]
      omega
theorem hasPrefix_two {s : List UInt8} (h : Lib.hasPrefix s [47, 47] = true) : 2 ≤ s.length := (List.isPrefixOf_iff_prefix.1 h).length_le

def endAdd (p : Nat) (ts : List Tok) : List Tok := if endR ts then ts ++ [⟨1, [], p⟩] else ts
/-- What a comment's end is: behind the place, as many bytes on. -/
theorem scanR_cons (p : Nat) (c : UInt8) (r : List UInt8) (ts : List Tok) : scanR p (c :: r) ts =
    (if c = 10 then scanR (p + 1) r (endAdd p ts)
    else if c = 32 ∨ c = 9 then scanR (p + 1) r ts
    else if Lib.hasPrefix (c :: r) [47, 47] then
      (if 0 ≤ Lib.indexByte (c :: r) 10 then scanR (p + (Lib.indexByte (c :: r) 10).toNat) (r.drop ((Lib.indexByte (c :: r) 10).toNat - 1)) ts else scanR (p + (r.length + 1)) [] ts)
    else match oneR p (c :: r) with
      | .bad e a => .bad e a
      | .ok x => scanR x.2 (r.drop (x.2 - p - 1)) (ts ++ [x.1])) := by
  conv => lhs; rw [scanR]
  rfl
theorem scanR_nil (p : Nat) (ts : List Tok) : scanR p [] ts = .ok (endAdd p ts) := by rw [scanR]; rfl

/-- The tokens of a text from a place on: those that were there, and more from that place on, rising. -/
theorem scan_more : ∀ (n : Nat) (s : List UInt8) (p : Nat) (ts l : List Tok), s.length = n → scanR p s ts = .ok l →
    ∃ m, l = ts ++ m ∧ (∀ t ∈ m, p ≤ t.at_ ∧ t.at_ ≤ p + s.length) ∧ m.Pairwise (fun a b => a.at_ < b.at_) := by
  intro n
  induction n using Nat.strongRecOn with
  | ind n ih =>
    intro s p ts l hn h
    cases s with
    | nil =>
      rw [scanR_nil] at h
      obtain rfl := Rd.ok.inj h
      unfold endAdd
      split
      · exact ⟨[⟨1, [], p⟩], rfl, by simp, by simp⟩
      · exact ⟨[], by simp, by simp, by simp⟩
    | cons c r =>
      simp only [List.length_cons] at hn ⊢
      rw [scanR_cons] at h
      split at h
      · obtain ⟨m, rfl, hm, hp⟩ := ih r.length (by omega) r _ _ _ rfl h
        unfold endAdd
        split
        · refine ⟨⟨1, [], p⟩ :: m, by simp, fun t ht => ?_, List.pairwise_cons.2 ⟨fun t ht => ?_, hp⟩⟩
          · rcases List.mem_cons.1 ht with rfl | ht
            · simp
            · have := hm t ht; omega
          · have := hm t ht; simp only; omega
        · exact ⟨m, rfl, fun t ht => by have := hm t ht; omega, hp⟩
      split at h
      · obtain ⟨m, rfl, hm, hp⟩ := ih r.length (by omega) r _ _ _ rfl h
        exact ⟨m, rfl, fun t ht => by have := hm t ht; omega, hp⟩
      split at h
      · rename_i hpf
        split at h
        · rename_i hix
          have hi := ixb_lt r c 10
          obtain ⟨m, rfl, hm, hp⟩ := ih _ (by rw [List.length_drop]; omega) _ _ _ _ rfl h
          refine ⟨m, rfl, fun t ht => ?_, hp⟩
          have := hm t ht
          rw [List.length_drop] at this
          omega
        · obtain ⟨m, rfl, hm, hp⟩ := ih 0 (by omega) _ _ _ _ rfl h
          exact ⟨m, rfl, fun t ht => by have := hm t ht; simp at this; omega, hp⟩
      · split at h
        · cases h
        · rename_i x hx
          have h1 := oneR_next hx
          have h2 := oneR_at hx
          simp only [List.length_cons] at h1
          obtain ⟨m, rfl, hm, hp⟩ := ih _ (by rw [List.length_drop]; omega) _ _ _ _ rfl h
          refine ⟨x.1 :: m, by simp, fun t ht => ?_, List.pairwise_cons.2 ⟨fun t ht => ?_, hp⟩⟩
          · rcases List.mem_cons.1 ht with rfl | ht
            · omega
            · have := hm t ht
              rw [List.length_drop] at this
              omega
          · have := hm t ht
            omega
theorem scan_pre {s : List UInt8} {p : Nat} {ts l : List Tok} (h : scanR p s ts = .ok l) {k : Nat} (hk : ts.length = k) : l.take k = ts := by
  obtain ⟨m, rfl, _, _⟩ := scan_more _ s p ts l rfl h
  subst hk
  simp
/-- A token behind those that were there stands at or behind the place. -/
theorem scan_late {s : List UInt8} {p : Nat} {ts l : List Tok} (h : scanR p s ts = .ok l) {k : Nat} {t : Tok} (hk : ts.length ≤ k) (ht : l[k]? = some t) : p ≤ t.at_ := by
  obtain ⟨m, rfl, hm, _⟩ := scan_more _ s p ts l rfl h
  rw [List.getElem?_append_right hk] at ht
  exact (hm t (List.mem_of_getElem? ht)).1

theorem scan_agree {x y : List UInt8} {l l' : List Tok} {k : Nat} {tk : Tok} (hk : l[k]? = some tk) : ∀ (n : Nat) (a : List UInt8) (p : Nat) (ts : List Tok), a.length = n →
    scanR p (a ++ x) ts = .ok l → scanR p (a ++ 32 :: y) ts = .ok l' → ts.length ≤ k → tk.at_ < p + a.length →
    (∀ t, l[k + 1]? = some t → t.at_ = p + a.length) → (l[k + 1]? = none → x = []) → l'.take (k + 1) = l.take (k + 1) := by
  intro n
  induction n using Nat.strongRecOn with
  | ind n ih =>
    intro a p ts hn h h' htk hat hnx hno
    cases a with
    | nil =>
      have := scan_late h htk hk
      simp at hat
      omega
    | cons c r =>
      simp only [List.length_cons] at hn hat hnx
      simp only [List.cons_append] at h h'
      rw [scanR_cons] at h h'
      by_cases h10 : c = 10
      · rw [if_pos h10] at h h'
        rcases Nat.lt_or_ge k (endAdd p ts).length with hl | hl
        · have he : (endAdd p ts).length = k + 1 := by
            unfold endAdd at hl ⊢
            split at hl
            · rename_i he; rw [if_pos he]; simp at hl ⊢; omega
            · omega
          rw [scan_pre h he, scan_pre h' he]
        · exact ih r.length (by omega) r _ _ rfl h h' hl (by omega) (fun t ht => by rw [hnx t ht]; omega) hno
      rw [if_neg h10] at h h'
      by_cases hb : c = 32 ∨ c = 9
      · rw [if_pos hb] at h h'
        exact ih r.length (by omega) r _ _ rfl h h' htk (by omega) (fun t ht => by rw [hnx t ht]; omega) hno
      rw [if_neg hb] at h h'
      have hpb : Lib.hasPrefix (c :: (r ++ 32 :: y)) [47, 47] = Lib.hasPrefix (c :: r) [47, 47] := hasPrefix_blank (a := c :: r) (by decide)
      cases hpx : Lib.hasPrefix (c :: (r ++ x)) [47, 47] with
      | true =>
        rw [hpx] at h
        simp only [if_true] at h
        by_cases hm : 10 ∈ (c :: r)
        · have hp2 : Lib.hasPrefix (c :: r) [47, 47] = true := by
            cases r with
            | nil => exact absurd (List.mem_singleton.1 hm).symm h10
            | cons d r => rw [← hasPrefix_split (a := c :: d :: r) (x := x) (by simp)]; exact hpx
          rw [hpb, hp2] at h'
          simp only [if_true] at h'
          have e1 : Lib.indexByte (c :: (r ++ x)) 10 = Lib.indexByte (c :: r) 10 := ixb_pre (a := c :: r) hm
          have e2 : Lib.indexByte (c :: (r ++ 32 :: y)) 10 = Lib.indexByte (c :: r) 10 := ixb_pre (a := c :: r) hm
          rw [e1] at h
          rw [e2] at h'
          have hi := ixb_lt r c 10
          have hi0 := ixb_mem hm
          rw [if_pos hi0] at h h'
          rw [List.drop_append_of_le_length (by omega)] at h h'
          have hp1 : 1 ≤ (Lib.indexByte (c :: r) 10).toNat := by
            rcases Nat.eq_zero_or_pos (Lib.indexByte (c :: r) 10).toNat with h0 | h0
            · exact absurd (ixb_zero hi0 (by omega)) h10
            · exact h0
          exact ih _ (by rw [List.length_drop]; omega) _ _ _ rfl h h' htk (by rw [List.length_drop]; omega) (fun t ht => by rw [hnx t ht, List.length_drop]; omega) hno
        · exfalso
          split at h
          · have := scan_late h htk hk
            have := ixb_late (a := c :: r) (x := x) hm (by simpa using ‹_›)
            simp only [List.length_cons, List.cons_append] at this
            omega
          · have := scan_late h htk hk
            simp only [List.length_append] at this
            omega
      | false =>
        have hp2 : Lib.hasPrefix (c :: r) [47, 47] = false := by
          cases hb2 : Lib.hasPrefix (c :: r) [47, 47] with
          | false => rfl
          | true =>
            have hle := hasPrefix_two hb2
            rw [← hasPrefix_split (a := c :: r) (x := x) (by simpa using hle)] at hb2
            rw [List.cons_append, hpx] at hb2
            cases hb2
        rw [hpx] at h
        rw [hpb, hp2] at h'
        simp only [Bool.false_eq_true, if_false] at h h'
        split at h
        · cases h
        · rename_i z hz
          obtain ⟨t, q⟩ := z
          have h1 := oneR_next hz
          simp only at h h1
          have hq : q ≤ p + (c :: r).length := by
            rcases Nat.lt_or_ge ts.length k with hl | hl
            · have := scan_late h (by simp; omega) hk
              simp only [List.length_cons]
              omega
            · cases hn1 : l[k + 1]? with
              | none =>
                have := hno hn1
                subst this
                simpa using h1.2.1
              | some t2 =>
                have h2 := scan_late h (by simp; omega) hn1
                have h3 := hnx t2 hn1
                simp only [List.length_cons]
                omega
          have h4 := oneR_pre (a := c :: r) (y := y) hz hq
          rw [List.cons_append] at h4
          rw [h4] at h'
          simp only at h'
          simp only [List.length_cons] at hq
          rw [List.drop_append_of_le_length (by omega)] at h h'
          rcases Nat.lt_or_ge ts.length k with hl | hl
          · exact ih _ (by rw [List.length_drop]; omega) _ _ _ rfl h h' (by simp; omega) (by rw [List.length_drop]; omega) (fun t ht => by rw [hnx t ht, List.length_drop]; omega) hno
          · rw [scan_pre h (by simp; omega), scan_pre h' (by simp; omega)]
end Go.Proofs.YtokhfhibdeneeaaGreatDoor
