/- stmt. -/
import Derived.Test.YtokhfhibdeneeaaGreatDoorPaY
import Derived.Test.YtokhfhibdeneeaaGreatDoorMLiesP
import Derived.Test.YtokhfhibdeneeaaGreatDoorPaG
import Derived.Test.YtokhfhibdeneeaaGreatDoorPaV
namespace Go.Proofs.YtokhfhibdeneeaaGreatDoor
open Go.RowKit
section
variable {E : Env} {M : Rm} {w0 W w1 W' : World} {rows : List Rw} {gs : Option Gv} {ts : List (Nd × Value)} {st s s' : Rs} {K : Kn} {g : Gv}
theorem named_ltB {E : Env} (hE : E.Ok) {j : Nat} (h : namedB (E.tok j) = true) : j < E.n := by
 unfold namedB at h
 simp only [Bool.and_eq_true] at h
 exact kind_ltB hE h.1 (by decide)
theorem and_l {a b : Bool} (h : (a && b) = true) : a = true := by cases a <;> simp_all
theorem and_r {a b : Bool} (h : (a && b) = true) : b = true := by cases a <;> simp_all

set_option maxRecDepth 100000 in
set_option maxHeartbeats 16000000 in
theorem stmt_rd (hE : EnvOk E M) (hK : KOK E M K) (hix : IndexOk E M K) (h : RdAt E M s W) (hne : stmtR E K s ≠ .out) :
 Calls Tryz.prog 85 #[.pointer (some ⟨M.bp, 0, none⟩)] W (Post E M VNd W (stmtR E K s)) := by
 obtain ⟨R, HR⟩ : ∃ R, Hid (stmtR E K s = R) := ⟨_, rfl⟩
 have hneR : R ≠ .out := by rw [← HR.out]; exact hne
 clear hne
 rw [HR.out]
 have HNE := Lib.hid hneR
 have HSP0 := HR
 unfold stmtR at HSP0
 have HS1 := Lib.hid ((St.init h).pz)
 try simp only [World.size_alloc] at HS1
 have a1R := F5 HS1 M0
 have hfi0 := fieldTok0
 have hfi1 := fieldTok1
 have hfi2 := fieldTok2
 have hfn0 := fieldNd0
 have hfn1 := fieldNd1
 have hn0 := hE.n
 clear hneR h
 go_enter Tryz.func85, Tryz.ntmps85
 go_wp2_with fail
 go_at_call 42
 refine (at0_rd hE HS1.rd).mono ?_
 rintro e w2 ⟨rfl, hb2⟩
 clear a1R
 have HS3 := Lib.hid (HS1.below hb2); try simp only [sz] at HS3
 have a4R := F5 HS3 M0
 clear hb2
 go_wp2_with fail
 go_at_call 42
 refine (at1_rd hE HS3.rd).mono ?_
 rintro e w5 ⟨rfl, hb5⟩
 clear a4R
 have HS6 := Lib.hid (((HS3.below hb5).push #[.int .i64 (E.tok s.i).kind, .string (E.tok s.i).str, .int .i64 (E.tok s.i).at_] 46).push #[.int .i64 (E.tok (s.i + 1)).kind, .string (E.tok (s.i + 1)).str, .int .i64 (E.tok (s.i + 1)).at_] 46); try simp only [sz] at HS6
 have a7 := J3 (F3 HS6 M0) (F3 HS6 M1) (F5 HS6 M2)
 clear hb5
 cases hbr : isT E s [123] with
 | true =>
  have HSP8 := HSP0; try simp only [hbr, reduceIte] at HSP8
  go_wp2_with fail
  go_at_call 138
  refine (word_tok (E := E) s.i ⟨#[123]⟩ [123] rfl _).mono ?_
  rw [show isW (E.tok s.i) [123] = true from hbr]
  rintro e w9 ⟨rfl, hb9⟩
  clear a7
  have HS10 := Lib.hid (HS6.below hb9); try simp only [sz] at HS10
  have a11 := J3 (F3 HS10 M0) (F3 HS10 M1) (F5 HS10 M2)
  clear hb9
  go_wp2_with fail
  go_at_call 140
  refine Post.use (bind_okR HSP8.out) HNE.out (fun h0 => block_rd hE hK HS10.rd h0) (be HS10.fp) ?_
  intro x12 s12 v12 w12 hsp12 hv12 hr12 hf12
  obtain ⟨k12, t12, n12, a12, ks12⟩ := x12
  obtain ⟨A12, cap12, rfl⟩ := VNd.form hv12
  clear a11
  have HS13 := Lib.hid (HS10.read hr12 hf12 hv12); try simp only [sz] at HS13
  have a14 := J3 (F3 HS13 M0) (F3 HS13 M1) (F5 HS13 M2)
  have HSP12 := Lib.hid hsp12
  clear hsp12 hr12 hf12
  go_wp2_with fail
  have hs15 := (HS13.swap3.set5 (.int .i64 k12) (.string t12) (.int .i64 n12) (.int .i64 a12) (.slice A12 ks12.length cap12))
  refine St.fin (slot := 2) rfl hs15 rfl (hs15.bx.tr _ M0) ?_
  exact HSP12.out
 | false =>
 have HSP8 := HSP0; try simp only [hbr, sm, reduceIte] at HSP8
 go_wp2_with fail
 go_at_call 138
 refine (word_tok (E := E) s.i ⟨#[123]⟩ [123] rfl _).mono ?_
 rw [show isW (E.tok s.i) [123] = false from hbr]
 rintro e w9 ⟨rfl, hb9⟩
 clear a7
 have HS10 := Lib.hid (HS6.below hb9); try simp only [sz] at HS10
 have a11 := J3 (F3 HS10 M0) (F3 HS10 M1) (F5 HS10 M2)
 clear hb9
 go_upto_region 4 with fail
 go_cut [16] (fun tq wx => tq = .bool (namedB (cur E s) && isW (nxt E s) [58, 61]) ∧ Hid (St E M W [((w5.heap.size + 1), #[.int .i64 (E.tok (s.i + 1)).kind, .string (E.tok (s.i + 1)).str, .int .i64 (E.tok (s.i + 1)).at_], 46), (w5.heap.size, #[.int .i64 (E.tok s.i).kind, .string (E.tok s.i).str, .int .i64 (E.tok s.i).at_], 46), (W.heap.size, #[.int .i64 0, .string ⟨#[]⟩, .int .i64 0, .int .i64 0, .slice none 0 0], 25)] none [] s wx))
 case first =>
  cases hnm : namedB (cur E s) with
  | true =>
   go_wp2_with fail
   go_at_call 141
   refine (named_tok (E := E) s.i _).mono ?_
   rw [show namedB (E.tok s.i) = true from hnm]
   rintro e w12 ⟨rfl, hb12⟩
   clear a11
   have HS13 := Lib.hid (HS10.below hb12); try simp only [sz] at HS13
   have a14 := J3 (F3 HS13 M0) (F3 HS13 M1) (F5 HS13 M2)
   clear hb12
   obtain ⟨b1, hb1⟩ : ∃ b, isW (nxt E s) [58, 61] = b := ⟨_, rfl⟩
   go_wp2_with fail
   go_at_call 138
   refine (word_tok (E := E) (s.i + 1) ⟨#[58, 61]⟩ [58, 61] rfl _).mono ?_
   rw [show isW (E.tok (s.i + 1)) [58, 61] = b1 from hb1]
   rintro e w15 ⟨rfl, hb15⟩
   clear a14
   have HS16 := Lib.hid (HS13.below hb15); try simp only [sz] at HS16
   have a17 := J3 (F3 HS16 M0) (F3 HS16 M1) (F5 HS16 M2)
   clear hb15
   go_wp2_with fail
   go_meet
   exact ⟨by rw [hnm, hb1]; rfl, HS16.out⟩
  | false =>
  go_wp2_with fail
  go_at_call 141
  refine (named_tok (E := E) s.i _).mono ?_
  rw [show namedB (E.tok s.i) = false from hnm]
  rintro e w12 ⟨rfl, hb12⟩
  clear a11
  have HS13 := Lib.hid (HS10.below hb12); try simp only [sz] at HS13
  have a14 := J3 (F3 HS13 M0) (F3 HS13 M1) (F5 HS13 M2)
  clear hb12
  go_wp2_with fail
  go_meet
  exact ⟨by rw [hnm]; rfl, HS13.out⟩
 case rest =>
  obtain ⟨rfl, HC1⟩ := hcut
  obtain ⟨b0, hb0⟩ : ∃ b, (namedB (cur E s) && isW (nxt E s) [58, 61]) = b := ⟨_, rfl⟩
  rw [hb0]
  have HSP12 := HSP8; try simp only [hb0] at HSP12
  have HB1 := Lib.hid hb0
  clear hb0
  have a13 := J3 (F3 HC1 M0) (F3 HC1 M1) (F5 HC1 M2)
  cases b0 with
  | true =>
   have HSP14 := HSP12; try simp only [reduceIte] at HSP14
   have hl0 : s.i < E.n := named_ltB hE.ok (and_l HB1.out)
   have hl1 : s.i + 1 < E.n := isW_lt hE.ok (and_r HB1.out)
   have c15_1 := HC1.out.rd.c1
   have f15_1 := HC1.out.rd.fz 1
   have HS16 := Lib.hid (HC1.out.adv2 hE (by first | omega | (simp only [adv]; omega))); try simp only [sz] at HS16
   have a17 := J3 (F3 HS16 M0) (F3 HS16 M1) (F5 HS16 M2)
   go_wp2_with fail
   clear a13 c15_1 f15_1 a17
   have hs18 := HS16.drew
   refine wp_region_G [] (fun Wx => Wx.cell? ⟨w5.heap.size, 1, none⟩ = some (.string (E.tok s.i).str) ∧ Wx.cell? ⟨w5.heap.size, 2, none⟩ = some (.int .i64 (E.tok s.i).at_)) (by rfl) ?_ (fun hHeld => ?_)
   · exact ⟨hs18.a M1 1, hs18.a M1 2⟩
   revert hs18 hHeld
   generalize World.drew _ = wd18
   intro hs18 hHeld
   refine tk 0 (h := tk 1 (h := tk 2 (h := tk 3 (h := ?_))))
   try simp only [nm]
   refine tk 4 (h := ?_)
   try simp only [nm]
   refine rd1 5 fun KK hKK => ?_
   go_simp
   go_at_call 37
   refine Post.nd HSP14 HNE (fun h0 => hK.expr _ _ hs18.rd h0) (be hs18.fp) ?_
   intro k19 t19 n19 a19 ks19 s19 A19 cap19 w19 HSP19 hv19 hr19 hf19
   have hs20 := (hs18.read hr19 hf19 hv19); try simp only [sz] at hs20
   clear hs18 hHeld
   refine hKK.out _ _ (⟨hs20.a M1 1, hs20.a M1 2⟩) (fun hHeld => ?_)
   clear hKK KK
   try simp only [nm]
   refine rd1 6 fun KK hKK => ?_
   go_simp
   have hs21 := (hs20.pn k19 t19 n19 a19 (.slice A19 ks19.length cap19)); try simp only [sz] at hs21
   clear hs20
   revert hs21
   generalize World.alloc _ _ = wq22
   intro hs21
   clear hHeld
   refine hKK.out _ _ (⟨hs21.a M2 1, hs21.a M2 2⟩) (fun hHeld => ?_)
   clear hKK KK
   try simp only [nm]
   refine tk 7 (h := ?_)
   try simp only [nm]
   refine rd1 8 fun KK hKK => ?_
   have a23R := F5 hs21 M3
   go_simp
   clear a23R
   have hs24 := (hs21.swap4.set5 (.int .i64 18) (.string (E.tok s.i).str) (.int .i64 0) (.int .i64 (E.tok s.i).at_) (.slice (some ⟨w19.heap.size, 0, none⟩) 1 1)); try simp only [sz] at hs24
   clear hs21
   revert hs24
   generalize World.setCell _ _ _ = wq25
   intro hs24
   clear hHeld
   refine hKK.out _ _ (⟨hs24.a M3 1, hs24.a M3 2⟩) (fun hHeld => ?_)
   clear hKK KK
   try simp only [nm]
   refine wpAnyG_done (by kernel_rfl) ?_ _
   have HS26 := Lib.hid hs24; try simp only [sz] at HS26
   clear hs24
   go_wp2_with fail
   have hs28 := (HS26.swap.node [(.mk k19 t19 n19 a19 ks19, .agg #[.int .i64 k19, .string t19, .int .i64 n19, .int .i64 a19, .slice A19 ks19.length cap19])] rfl (memC M0 (mem0 _)) (k := 18) (sx := (E.tok s.i).str) (n := 0) (a := (E.tok s.i).at_) ok_lit ok_lit (hE.at_ _) (hE.str _) (l := 1) rfl (by decide))
   refine St.fin (slot := 2) rfl hs28 rfl (hs28.bx.tr _ M0) ?_
   exact HSP19.out
  | false =>
  have HSP14 := HSP12; try simp only [Bool.false_eq_true, reduceIte] at HSP14
  go_upto_region 7 with fail
  go_cut [38] (fun tq wx => tq = .bool (namedB (cur E s) && isW (nxt E s) [44]) ∧ Hid (St E M W [((w5.heap.size + 1), #[.int .i64 (E.tok (s.i + 1)).kind, .string (E.tok (s.i + 1)).str, .int .i64 (E.tok (s.i + 1)).at_], 46), (w5.heap.size, #[.int .i64 (E.tok s.i).kind, .string (E.tok s.i).str, .int .i64 (E.tok s.i).at_], 46), (W.heap.size, #[.int .i64 0, .string ⟨#[]⟩, .int .i64 0, .int .i64 0, .slice none 0 0], 25)] none [] s wx))
  case first =>
   cases hnm : namedB (cur E s) with
   | true =>
    go_wp2_with fail
    go_at_call 141
    refine (named_tok (E := E) s.i _).mono ?_
    rw [show namedB (E.tok s.i) = true from hnm]
    rintro e w15 ⟨rfl, hb15⟩
    clear a13
    have HS16 := Lib.hid (HC1.out.below hb15); try simp only [sz] at HS16
    have a17 := J3 (F3 HS16 M0) (F3 HS16 M1) (F5 HS16 M2)
    clear hb15
    obtain ⟨b1, hb1⟩ : ∃ b, isW (nxt E s) [44] = b := ⟨_, rfl⟩
    go_wp2_with fail
    go_at_call 138
    refine (word_tok (E := E) (s.i + 1) ⟨#[44]⟩ [44] rfl _).mono ?_
    rw [show isW (E.tok (s.i + 1)) [44] = b1 from hb1]
    rintro e w18 ⟨rfl, hb18⟩
    clear a17
    have HS19 := Lib.hid (HS16.below hb18); try simp only [sz] at HS19
    have a20 := J3 (F3 HS19 M0) (F3 HS19 M1) (F5 HS19 M2)
    clear hb18
    go_wp2_with fail
    go_meet
    exact ⟨by rw [hnm, hb1]; rfl, HS19.out⟩
   | false =>
   go_wp2_with fail
   go_at_call 141
   refine (named_tok (E := E) s.i _).mono ?_
   rw [show namedB (E.tok s.i) = false from hnm]
   rintro e w15 ⟨rfl, hb15⟩
   clear a13
   have HS16 := Lib.hid (HC1.out.below hb15); try simp only [sz] at HS16
   have a17 := J3 (F3 HS16 M0) (F3 HS16 M1) (F5 HS16 M2)
   clear hb15
   go_wp2_with fail
   go_meet
   exact ⟨by rw [hnm]; rfl, HS16.out⟩
  case rest =>
   obtain ⟨rfl, HC2⟩ := hcut
   obtain ⟨b0, hb0⟩ : ∃ b, (namedB (cur E s) && isW (nxt E s) [44]) = b := ⟨_, rfl⟩
   rw [hb0]
   have HSP15 := HSP14; try simp only [hb0] at HSP15
   have HB2 := Lib.hid hb0
   clear hb0
   have a16 := J3 (F3 HC2 M0) (F3 HC2 M1) (F5 HC2 M2)
   cases b0 with
   | true =>
    have HSP17 := HSP15; try simp only [reduceIte] at HSP17
    have hl0 : s.i < E.n := named_ltB hE.ok (and_l HB2.out)
    have hl1 : s.i + 1 < E.n := isW_lt hE.ok (and_r HB2.out)
    go_wp2_with fail
    go_at_call 142
    refine Post.use (bind_okR HSP17.out) HNE.out (fun h0 => two_rd hE hK hix HC2.out.rd h0) (be HC2.out.fp) ?_
    intro x18 s18 v18 w18 hsp18 hv18 hr18 hf18
    obtain ⟨k18, t18, n18, a18, ks18⟩ := x18
    obtain ⟨A18, cap18, rfl⟩ := VNd.form hv18
    clear a16
    have HS19 := Lib.hid (HC2.out.read hr18 hf18 hv18); try simp only [sz] at HS19
    have a20 := J3 (F3 HS19 M0) (F3 HS19 M1) (F5 HS19 M2)
    have HSP18 := Lib.hid hsp18
    clear hsp18 hr18 hf18
    go_wp2_with fail
    have hs21 := (HS19.swap3.set5 (.int .i64 k18) (.string t18) (.int .i64 n18) (.int .i64 a18) (.slice A18 ks18.length cap18))
    refine St.fin (slot := 2) rfl hs21 rfl (hs21.bx.tr _ M0) ?_
    exact HSP18.out
   | false =>
   have HSP17 := HSP15; try simp only [Bool.false_eq_true, reduceIte] at HSP17
   go_upto_region 9 with fail
   go_cut [47] (fun tq wx => tq = .bool (namedB (cur E s) && isW (nxt E s) [58]) ∧ Hid (St E M W [((w5.heap.size + 1), #[.int .i64 (E.tok (s.i + 1)).kind, .string (E.tok (s.i + 1)).str, .int .i64 (E.tok (s.i + 1)).at_], 46), (w5.heap.size, #[.int .i64 (E.tok s.i).kind, .string (E.tok s.i).str, .int .i64 (E.tok s.i).at_], 46), (W.heap.size, #[.int .i64 0, .string ⟨#[]⟩, .int .i64 0, .int .i64 0, .slice none 0 0], 25)] none [] s wx))
   case first =>
    cases hnm : namedB (cur E s) with
    | true =>
     go_wp2_with fail
     go_at_call 141
     refine (named_tok (E := E) s.i _).mono ?_
     rw [show namedB (E.tok s.i) = true from hnm]
     rintro e w18 ⟨rfl, hb18⟩
     clear a16
     have HS19 := Lib.hid (HC2.out.below hb18); try simp only [sz] at HS19
     have a20 := J3 (F3 HS19 M0) (F3 HS19 M1) (F5 HS19 M2)
     clear hb18
     obtain ⟨b1, hb1⟩ : ∃ b, isW (nxt E s) [58] = b := ⟨_, rfl⟩
     go_wp2_with fail
     go_at_call 138
     refine (word_tok (E := E) (s.i + 1) ⟨#[58]⟩ [58] rfl _).mono ?_
     rw [show isW (E.tok (s.i + 1)) [58] = b1 from hb1]
     rintro e w21 ⟨rfl, hb21⟩
     clear a20
     have HS22 := Lib.hid (HS19.below hb21); try simp only [sz] at HS22
     have a23 := J3 (F3 HS22 M0) (F3 HS22 M1) (F5 HS22 M2)
     clear hb21
     go_wp2_with fail
     go_meet
     exact ⟨by rw [hnm, hb1]; rfl, HS22.out⟩
    | false =>
    go_wp2_with fail
    go_at_call 141
    refine (named_tok (E := E) s.i _).mono ?_
    rw [show namedB (E.tok s.i) = false from hnm]
    rintro e w18 ⟨rfl, hb18⟩
    clear a16
    have HS19 := Lib.hid (HC2.out.below hb18); try simp only [sz] at HS19
    have a20 := J3 (F3 HS19 M0) (F3 HS19 M1) (F5 HS19 M2)
    clear hb18
    go_wp2_with fail
    go_meet
    exact ⟨by rw [hnm]; rfl, HS19.out⟩
   case rest =>
    obtain ⟨rfl, HC3⟩ := hcut
    obtain ⟨b0, hb0⟩ : ∃ b, (namedB (cur E s) && isW (nxt E s) [58]) = b := ⟨_, rfl⟩
    rw [hb0]
    have HSP18 := HSP17; try simp only [hb0] at HSP18
    have HB3 := Lib.hid hb0
    clear hb0
    have a19 := J3 (F3 HC3 M0) (F3 HC3 M1) (F5 HC3 M2)
    cases b0 with
    | true =>
     have HSP20 := HSP18; try simp only [reduceIte] at HSP20
     have hl0 : s.i < E.n := named_ltB hE.ok (and_l HB3.out)
     have hl1 : s.i + 1 < E.n := isW_lt hE.ok (and_r HB3.out)
     have c21_1 := HC3.out.rd.c1
     have f21_1 := HC3.out.rd.fz 1
     have HS22 := Lib.hid (HC3.out.adv2 hE (by first | omega | (simp only [adv]; omega))); try simp only [sz] at HS22
     have a23 := J3 (F3 HS22 M0) (F3 HS22 M1) (F5 HS22 M2)
     cases hf : isT E (adv s 2) [102, 111, 114] with
     | true =>
      have HSP24 := HSP20; try simp only [hf, sm, reduceIte] at HSP24
      go_wp2_with fail
      go_at_call 139
      refine (is_any hE HS22.rd ⟨#[102, 111, 114]⟩ [102, 111, 114] rfl).mono ?_
      rw [hf]
      rintro e w25 ⟨rfl, hb25⟩
      clear a19 c21_1 f21_1 a23
      have HS26 := Lib.hid (HS22.below hb25); try simp only [sz] at HS26
      have a27 := J3 (F3 HS26 M0) (F3 HS26 M1) (F5 HS26 M2)
      clear hb25
      go_wp2_with fail
      go_at_call 143
      refine Post.use (bind_okR HSP24.out) HNE.out (fun h0 => labelled_rd hE hK hix HS26.rd (label := (E.tok s.i).text) (hE.str _) (hE.at_ _) h0) (be HS26.fp) ?_
      intro x28 s28 v28 w28 hsp28 hv28 hr28 hf28
      obtain ⟨k28, t28, n28, a28, ks28⟩ := x28
      obtain ⟨A28, cap28, rfl⟩ := VNd.form hv28
      clear a27
      have HS29 := Lib.hid (HS26.read hr28 hf28 hv28); try simp only [sz] at HS29
      have a30 := J3 (F3 HS29 M0) (F3 HS29 M1) (F5 HS29 M2)
      have HSP28 := Lib.hid hsp28
      clear hsp28 hr28 hf28
      go_wp2_with fail
      have hs31 := (HS29.swap3.set5 (.int .i64 k28) (.string t28) (.int .i64 n28) (.int .i64 a28) (.slice A28 ks28.length cap28))
      refine St.fin (slot := 2) rfl hs31 rfl (hs31.bx.tr _ M0) ?_
      exact HSP28.out
     | false =>
     have HSP24 := HSP20; try simp only [hf, sm] at HSP24
     go_wp2_with fail
     go_at_call 139
     refine (is_any hE HS22.rd ⟨#[102, 111, 114]⟩ [102, 111, 114] rfl).mono ?_
     rw [hf]
     rintro e w25 ⟨rfl, hb25⟩
     clear a19 c21_1 f21_1 a23
     have HS26 := Lib.hid (HS22.below hb25); try simp only [sz] at HS26
     have a27 := J3 (F3 HS26 M0) (F3 HS26 M1) (F5 HS26 M2)
     clear hb25
     cases hw : isT E (adv s 2) [115, 119, 105, 116, 99, 104] with
     | true =>
      have HSP28 := HSP24; try simp only [hw, reduceIte] at HSP28
      go_wp2_with fail
      go_at_call 139
      refine (is_any hE HS26.rd ⟨#[115, 119, 105, 116, 99, 104]⟩ [115, 119, 105, 116, 99, 104] rfl).mono ?_
      rw [hw]
      rintro e w29 ⟨rfl, hb29⟩
      clear a27
      have HS30 := Lib.hid (HS26.below hb29); try simp only [sz] at HS30
      have a31 := J3 (F3 HS30 M0) (F3 HS30 M1) (F5 HS30 M2)
      clear hb29
      go_wp2_with fail
      go_at_call 143
      refine Post.use (bind_okR HSP28.out) HNE.out (fun h0 => labelled_rd hE hK hix HS30.rd (label := (E.tok s.i).text) (hE.str _) (hE.at_ _) h0) (be HS30.fp) ?_
      intro x32 s32 v32 w32 hsp32 hv32 hr32 hf32
      obtain ⟨k32, t32, n32, a32, ks32⟩ := x32
      obtain ⟨A32, cap32, rfl⟩ := VNd.form hv32
      clear a31
      have HS33 := Lib.hid (HS30.read hr32 hf32 hv32); try simp only [sz] at HS33
      have a34 := J3 (F3 HS33 M0) (F3 HS33 M1) (F5 HS33 M2)
      have HSP32 := Lib.hid hsp32
      clear hsp32 hr32 hf32
      go_wp2_with fail
      have hs35 := (HS33.swap3.set5 (.int .i64 k32) (.string t32) (.int .i64 n32) (.int .i64 a32) (.slice A32 ks32.length cap32))
      refine St.fin (slot := 2) rfl hs35 rfl (hs35.bx.tr _ M0) ?_
      exact HSP32.out
     | false =>
     have HSP28 := HSP24; try simp only [hw, sm, reduceIte] at HSP28
     go_wp2_with fail
     go_at_call 139
     refine (is_any hE HS26.rd ⟨#[115, 119, 105, 116, 99, 104]⟩ [115, 119, 105, 116, 99, 104] rfl).mono ?_
     rw [hw]
     rintro e w29 ⟨rfl, hb29⟩
     clear a27
     have HS30 := Lib.hid (HS26.below hb29); try simp only [sz] at HS30
     have a31 := J3 (F3 HS30 M0) (F3 HS30 M1) (F5 HS30 M2)
     clear hb29
     go_wp2_with fail
     go_at_call 44
     refine (fail_any hE HS30.rd).mono ?_
     rintro e wz ⟨rfl, hbz⟩
     exact ⟨rfl, bad_end (HSP28.out).symm (HS30.below hbz).fp⟩
    | false =>
    have HSP20 := HSP18; try simp only [Bool.false_eq_true, reduceIte] at HSP20
    cases hf : isT E s [102, 111, 114] with
    | true =>
     have HSP21 := HSP20; try simp only [hf, sm, reduceIte] at HSP21
     go_wp2_with fail
     go_at_call 138
     refine (word_tok (E := E) s.i ⟨#[102, 111, 114]⟩ [102, 111, 114] rfl _).mono ?_
     rw [show isW (E.tok s.i) [102, 111, 114] = true from hf]
     rintro e w22 ⟨rfl, hb22⟩
     clear a19
     have HS23 := Lib.hid (HC3.out.below hb22); try simp only [sz] at HS23
     have a24 := J3 (F3 HS23 M0) (F3 HS23 M1) (F5 HS23 M2)
     clear hb22
     go_wp2_with fail
     go_at_call 143
     refine Post.use (bind_okR HSP21.out) HNE.out (fun h0 => labelled_rd hE hK hix HS23.rd (label := []) (by decide) (hE.at_ _) h0) (be HS23.fp) ?_
     intro x25 s25 v25 w25 hsp25 hv25 hr25 hf25
     obtain ⟨k25, t25, n25, a25, ks25⟩ := x25
     obtain ⟨A25, cap25, rfl⟩ := VNd.form hv25
     clear a24
     have HS26 := Lib.hid (HS23.read hr25 hf25 hv25); try simp only [sz] at HS26
     have a27 := J3 (F3 HS26 M0) (F3 HS26 M1) (F5 HS26 M2)
     have HSP25 := Lib.hid hsp25
     clear hsp25 hr25 hf25
     go_wp2_with fail
     have hs28 := (HS26.swap3.set5 (.int .i64 k25) (.string t25) (.int .i64 n25) (.int .i64 a25) (.slice A25 ks25.length cap25))
     refine St.fin (slot := 2) rfl hs28 rfl (hs28.bx.tr _ M0) ?_
     exact HSP25.out
    | false =>
    have HSP21 := HSP20; try simp only [hf, sm] at HSP21
    go_wp2_with fail
    go_at_call 138
    refine (word_tok (E := E) s.i ⟨#[102, 111, 114]⟩ [102, 111, 114] rfl _).mono ?_
    rw [show isW (E.tok s.i) [102, 111, 114] = false from hf]
    rintro e w22 ⟨rfl, hb22⟩
    clear a19
    have HS23 := Lib.hid (HC3.out.below hb22); try simp only [sz] at HS23
    have a24 := J3 (F3 HS23 M0) (F3 HS23 M1) (F5 HS23 M2)
    clear hb22
    cases hw : isT E s [115, 119, 105, 116, 99, 104] with
    | true =>
     have HSP25 := HSP21; try simp only [hw, reduceIte] at HSP25
     go_wp2_with fail
     go_at_call 138
     refine (word_tok (E := E) s.i ⟨#[115, 119, 105, 116, 99, 104]⟩ [115, 119, 105, 116, 99, 104] rfl _).mono ?_
     rw [show isW (E.tok s.i) [115, 119, 105, 116, 99, 104] = true from hw]
     rintro e w26 ⟨rfl, hb26⟩
     clear a24
     have HS27 := Lib.hid (HS23.below hb26); try simp only [sz] at HS27
     have a28 := J3 (F3 HS27 M0) (F3 HS27 M1) (F5 HS27 M2)
     clear hb26
     go_wp2_with fail
     go_at_call 143
     refine Post.use (bind_okR HSP25.out) HNE.out (fun h0 => labelled_rd hE hK hix HS27.rd (label := []) (by decide) (hE.at_ _) h0) (be HS27.fp) ?_
     intro x29 s29 v29 w29 hsp29 hv29 hr29 hf29
     obtain ⟨k29, t29, n29, a29, ks29⟩ := x29
     obtain ⟨A29, cap29, rfl⟩ := VNd.form hv29
     clear a28
     have HS30 := Lib.hid (HS27.read hr29 hf29 hv29); try simp only [sz] at HS30
     have a31 := J3 (F3 HS30 M0) (F3 HS30 M1) (F5 HS30 M2)
     have HSP29 := Lib.hid hsp29
     clear hsp29 hr29 hf29
     go_wp2_with fail
     have hs32 := (HS30.swap3.set5 (.int .i64 k29) (.string t29) (.int .i64 n29) (.int .i64 a29) (.slice A29 ks29.length cap29))
     refine St.fin (slot := 2) rfl hs32 rfl (hs32.bx.tr _ M0) ?_
     exact HSP29.out
    | false =>
    have HSP25 := HSP21; try simp only [hw, sm, reduceIte] at HSP25
    go_wp2_with fail
    go_at_call 138
    refine (word_tok (E := E) s.i ⟨#[115, 119, 105, 116, 99, 104]⟩ [115, 119, 105, 116, 99, 104] rfl _).mono ?_
    rw [show isW (E.tok s.i) [115, 119, 105, 116, 99, 104] = false from hw]
    rintro e w26 ⟨rfl, hb26⟩
    clear a24
    have HS27 := Lib.hid (HS23.below hb26); try simp only [sz] at HS27
    have a28 := J3 (F3 HS27 M0) (F3 HS27 M1) (F5 HS27 M2)
    clear hb26
    cases hi : isT E s [105, 102] with
    | true =>
     have HSP29 := HSP25; try simp only [hi, reduceIte] at HSP29
     go_wp2_with fail
     go_at_call 138
     refine (word_tok (E := E) s.i ⟨#[105, 102]⟩ [105, 102] rfl _).mono ?_
     rw [show isW (E.tok s.i) [105, 102] = true from hi]
     rintro e w30 ⟨rfl, hb30⟩
     clear a28
     have HS31 := Lib.hid (HS27.below hb30); try simp only [sz] at HS31
     have a32 := J3 (F3 HS31 M0) (F3 HS31 M1) (F5 HS31 M2)
     clear hb30
     go_wp2_with fail
     go_at_call 144
     refine Post.use (bind_okR HSP29.out) HNE.out (fun h0 => hK.branch _ _ HS31.rd h0) (be HS31.fp) ?_
     intro x33 s33 v33 w33 hsp33 hv33 hr33 hf33
     obtain ⟨k33, t33, n33, a33, ks33⟩ := x33
     obtain ⟨A33, cap33, rfl⟩ := VNd.form hv33
     clear a32
     have HS34 := Lib.hid (HS31.read hr33 hf33 hv33); try simp only [sz] at HS34
     have a35 := J3 (F3 HS34 M0) (F3 HS34 M1) (F5 HS34 M2)
     have HSP33 := Lib.hid hsp33
     clear hsp33 hr33 hf33
     go_wp2_with fail
     have hs36 := (HS34.swap3.set5 (.int .i64 k33) (.string t33) (.int .i64 n33) (.int .i64 a33) (.slice A33 ks33.length cap33))
     refine St.fin (slot := 2) rfl hs36 rfl (hs36.bx.tr _ M0) ?_
     exact HSP33.out
    | false =>
    have HSP29 := HSP25; try simp only [hi, sm, reduceIte] at HSP29
    go_wp2_with fail
    go_at_call 138
    refine (word_tok (E := E) s.i ⟨#[105, 102]⟩ [105, 102] rfl _).mono ?_
    rw [show isW (E.tok s.i) [105, 102] = false from hi]
    rintro e w30 ⟨rfl, hb30⟩
    clear a28
    have HS31 := Lib.hid (HS27.below hb30); try simp only [sz] at HS31
    have a32 := J3 (F3 HS31 M0) (F3 HS31 M1) (F5 HS31 M2)
    clear hb30
    cases hr : isT E s [114, 101, 116, 117, 114, 110] with
    | true =>
     have HSP33 := HSP29; try simp only [hr, reduceIte] at HSP33
     have htk33 : takeS E [114, 101, 116, 117, 114, 110] s = adv s 1 := by rw [takeS, hr]; rfl
     go_wp2_with fail
     go_at_call 86
     refine (take_any hE HS31.rd ⟨#[114, 101, 116, 117, 114, 110]⟩ [114, 101, 116, 117, 114, 110] rfl).mono ?_
     rw [hr]
     rw [htk33]
     rintro e w34 ⟨rfl, hr34, hf34⟩
     clear a32
     have HS35 := Lib.hid (HS31.go hr34 hf34); try simp only [sz] at HS35
     have a36 := J3 (F3 HS35 M0) (F3 HS35 M1) (F5 HS35 M2)
     clear hr34 hf34
     have HSP37 := HSP33; try simp only [returnR] at HSP37
     go_wp2_with fail
     clear a36
     have hs38 := HS35.drew
     refine wp_region_G [] (fun Wx => Wx.cell? ⟨w5.heap.size, 2, none⟩ = some (.int .i64 (E.tok s.i).at_)) (by rfl) ?_ (fun hHeld => ?_)
     · exact hs38.a M1 2
     revert hs38 hHeld
     generalize World.drew _ = wd38
     intro hs38 hHeld
     refine tk 0 (h := tk 1 (h := tk 2 (h := ?_)))
     try simp only [nm]
     refine wpAnyG_ready (rs := [3, 6]) (by kernel_rfl) (by simp) ?_
     refine AllReadyG.cons rfl (fun KK hKK => ?_) (AllReadyG.cons rfl (fun KK hKK => ?_) AllReadyG.nil)
     ·
      go_simp
      go_at_call 145
      refine (none_rd hE hs38.rd).mono ?_
      rintro e w39 ⟨rfl, hb39⟩
      have hs41 := ((hs38.below hb39).tree (t := .mk 16 ⟨#[]⟩ 0 (cur E (adv s 1)).at_ []) (v := .agg #[.int .i64 16, .string ⟨#[]⟩, .int .i64 0, .int .i64 (cur E (adv s 1)).at_, .slice none 0 0]) (LiesP.leaf ok_lit ok_lit (hE.at_ _) (by decide))); try simp only [sz] at hs41
      clear hs38 hHeld
      refine hKK.out _ _ (hs41.a M1 2) (fun hHeld => ?_)
      clear hKK KK
      try simp only [nm]
      refine wpAnyG_ready (rs := [4, 6]) (by kernel_rfl) (by simp) ?_
      refine AllReadyG.cons rfl (fun KK hKK => ?_) (AllReadyG.cons rfl (fun KK hKK => ?_) AllReadyG.nil)
      ·
       go_simp
       have hs42 := (hs41.push #[.int .i64 16, .string ⟨#[]⟩, .int .i64 0, .int .i64 (cur E (adv s 1)).at_, .slice none 0 0] 25); try simp only [sz] at hs42
       clear hs41
       revert hs42
       generalize World.alloc _ _ = wq43
       intro hs42
       clear hHeld
       refine hKK.out _ _ (hs42.a M2 2) (fun hHeld => ?_)
       clear hKK KK
       try simp only [nm]
       refine tk 5 (h := ?_)
       try simp only [nm]
       refine rd1 6 fun KK hKK => ?_
       go_simp
       have hs44 := (hs42.pz); try simp only [sz] at hs44
       clear hs42
       revert hs44
       generalize World.alloc _ _ = wq45
       intro hs44
       clear hHeld
       refine hKK.out _ _ (hs44.a M3 2) (fun hHeld => ?_)
       clear hKK KK
       try simp only [nm]
       refine rd1 7 fun KK hKK => ?_
       have a46N := F5 hs44 M0
       go_simp
       clear a46N
       have hs47 := (hs44.set5 (.int .i64 28) (.string ⟨#[]⟩) (.int .i64 0) (.int .i64 (E.tok s.i).at_) (.slice (some ⟨w39.heap.size, 0, none⟩) 1 1)); try simp only [sz] at hs47
       clear hs44
       revert hs47
       generalize World.setCell _ _ _ = wq48
       intro hs47
       clear hHeld
       refine hKK.out _ _ (hs47.a M3 2) (fun hHeld => ?_)
       clear hKK KK
       try simp only [nm]
       refine wpAnyG_done (by kernel_rfl) ?_ _
       have HS49 := Lib.hid hs47; try simp only [sz] at HS49
       have a50 := J5 (F5 HS49 M0) (F5 HS49 M1) (F3 HS49 M2) (F3 HS49 M3) (F5 HS49 M4)
       clear hs47
       go_wp2_with fail
       go_at_call 42
       refine (at0_rd hE HS49.rd).mono ?_
       rintro e w51 ⟨rfl, hb51⟩
       clear a50
       have HS52 := Lib.hid (HS49.below hb51); try simp only [sz] at HS52
       have a53 := J5 (F5 HS52 M0) (F5 HS52 M1) (F3 HS52 M2) (F3 HS52 M3) (F5 HS52 M4)
       clear hb51
       cases hk : (cur E (adv s 1)).kind == 1 with
       | true =>
        have HSP54 := HSP37; try simp only [hk, sm, reduceIte] at HSP54
        have hk1 : ((E.tok (adv s 1).i).kind == 1) = true := hk
        have hk2 : ((E.tok (adv s 1).i).kind != 1) = false := by simp only [bne, hk1, Bool.not_true]
        go_wp2_with fail
        have hs56 := ((HS52.swap.node [(.mk 16 ⟨#[]⟩ 0 (cur E (adv s 1)).at_ [], .agg #[.int .i64 16, .string ⟨#[]⟩, .int .i64 0, .int .i64 (cur E (adv s 1)).at_, .slice none 0 0])] rfl (memC M0 (mem0 _)) (k := 28) (sx := ⟨#[]⟩) (n := 0) (a := (E.tok s.i).at_) ok_lit ok_lit (hE.at_ _) (by decide) (l := 1) rfl (by decide)).swap4.set5 (.int .i64 28) (.string ⟨#[]⟩) (.int .i64 0) (.int .i64 (E.tok s.i).at_) (.slice (some ⟨w39.heap.size, 0, none⟩) 1 1))
        refine St.fin (slot := 2) rfl hs56 rfl (hs56.bx.tr _ M0) ?_
        exact HSP54.out
       | false =>
       have HSP54 := HSP37; try simp only [hk, sm] at HSP54
       have hk1 : ((E.tok (adv s 1).i).kind == 1) = false := hk
       have hk2 : ((E.tok (adv s 1).i).kind != 1) = true := by simp only [bne, hk1, Bool.not_false]
       cases hst : stopsB E (adv s 1) with
       | true =>
        have HSP55 := HSP54; try simp only [hst, reduceIte] at HSP55
        go_wp2_with fail
        go_at_call 84
        refine (stops_rd hE HS52.rd).mono ?_
        rw [hst]
        rintro e w56 ⟨rfl, hb56⟩
        clear a53
        have HS57 := Lib.hid (HS52.below hb56); try simp only [sz] at HS57
        have a58 := J5 (F5 HS57 M0) (F5 HS57 M1) (F3 HS57 M2) (F3 HS57 M3) (F5 HS57 M4)
        clear hb56
        go_wp2_with fail
        have hs60 := ((HS57.swap.node [(.mk 16 ⟨#[]⟩ 0 (cur E (adv s 1)).at_ [], .agg #[.int .i64 16, .string ⟨#[]⟩, .int .i64 0, .int .i64 (cur E (adv s 1)).at_, .slice none 0 0])] rfl (memC M0 (mem0 _)) (k := 28) (sx := ⟨#[]⟩) (n := 0) (a := (E.tok s.i).at_) ok_lit ok_lit (hE.at_ _) (by decide) (l := 1) rfl (by decide)).swap4.set5 (.int .i64 28) (.string ⟨#[]⟩) (.int .i64 0) (.int .i64 (E.tok s.i).at_) (.slice (some ⟨w39.heap.size, 0, none⟩) 1 1))
        refine St.fin (slot := 2) rfl hs60 rfl (hs60.bx.tr _ M0) ?_
        exact HSP55.out
       | false =>
       have HSP55 := HSP54; try simp only [hst, sm, reduceIte] at HSP55
       go_wp2_with fail
       go_at_call 84
       refine (stops_rd hE HS52.rd).mono ?_
       rw [hst]
       rintro e w56 ⟨rfl, hb56⟩
       clear a53
       have HS57 := Lib.hid (HS52.below hb56); try simp only [sz] at HS57
       have a58 := J5 (F5 HS57 M0) (F5 HS57 M1) (F3 HS57 M2) (F3 HS57 M3) (F5 HS57 M4)
       clear hb56
       go_wp2_with fail
       clear a58
       have hs59 := HS57.drew
       refine wp_region_G [] (fun Wx => Wx.cell? ⟨wq43.heap.size, 4, none⟩ = some (.slice (some ⟨w39.heap.size, 0, none⟩) 1 1)) (by rfl) ?_ (fun hHeld => ?_)
       · exact hs59.a M0 4
       revert hs59 hHeld
       generalize World.drew _ = wd59
       intro hs59 hHeld
       refine tk 0 (h := tk 1 (h := tk 2 (h := ?_)))
       try simp only [nm]
       refine rd1 3 fun KK hKK => ?_
       go_simp
       go_at_call 37
       refine Post.nd HSP55 HNE (fun h0 => hK.expr _ _ hs59.rd h0) (be hs59.fp) ?_
       intro k60 t60 n60 a60 ks60 s60 A60 cap60 w60 HSP60 hv60 hr60 hf60
       have hs61 := (hs59.read hr60 hf60 hv60); try simp only [sz] at hs61
       clear hs59 hHeld
       refine hKK.out _ _ (hs61.a M0 4) (fun hHeld => ?_)
       clear hKK KK
       try simp only [nm]
       refine tk 4 (h := ?_)
       try simp only [nm]
       refine rd1 5 fun KK hKK => ?_
       have q62_0 := hs61.a M1 0
       have y62_0 := hs61.bx.fz M1 0
       have q62_1 := hs61.a M1 1
       have y62_1 := hs61.bx.fz M1 1
       have q62_2 := hs61.a M1 2
       have y62_2 := hs61.bx.fz M1 2
       have q62_3 := hs61.a M1 3
       have y62_3 := hs61.bx.fz M1 3
       have q62_4 := hs61.a M1 4
       have y62_4 := hs61.bx.fz M1 4
       go_simp
       clear q62_0 y62_0 q62_1 y62_1 q62_2 y62_2 q62_3 y62_3 q62_4 y62_4
       have hs63 := (((((hs61.swap.setRow 0 (.int .i64 k60)).setRow 1 (.string t60)).setRow 2 (.int .i64 n60)).setRow 3 (.int .i64 a60)).setRow 4 (.slice A60 ks60.length cap60)); try simp only [sz] at hs63
       clear hs61
       revert hs63
       generalize World.setCell _ _ _ = wq64
       intro hs63
       clear hHeld
       refine hKK.out _ _ (hs63.a M1 4) (fun hHeld => ?_)
       clear hKK KK
       try simp only [nm]
       refine wpAnyG_done (by kernel_rfl) ?_ _
       have HS65 := Lib.hid hs63; try simp only [sz] at HS65
       have a66 := J5 (F5 HS65 M0) (F5 HS65 M1) (F3 HS65 M2) (F3 HS65 M3) (F5 HS65 M4)
       clear hs63
       go_wp2_with fail
       have hs68 := ((HS65.node [(.mk k60 t60 n60 a60 ks60, .agg #[.int .i64 k60, .string t60, .int .i64 n60, .int .i64 a60, .slice A60 ks60.length cap60])] rfl (memC M0 (mem0 _)) (k := 28) (sx := ⟨#[]⟩) (n := 0) (a := (E.tok s.i).at_) ok_lit ok_lit (hE.at_ _) (by decide) (l := 1) rfl (by decide)).swap4.set5 (.int .i64 28) (.string ⟨#[]⟩) (.int .i64 0) (.int .i64 (E.tok s.i).at_) (.slice (some ⟨w39.heap.size, 0, none⟩) 1 1))
       refine St.fin (slot := 2) rfl hs68 rfl (hs68.bx.tr _ M0) ?_
       exact HSP60.out
      ·
       go_simp
       have hs42 := (hs41.pz); try simp only [sz] at hs42
       clear hs41
       revert hs42
       generalize World.alloc _ _ = wq43
       intro hs42
       clear hHeld
       refine hKK.out _ _ (hs42.a M2 2) (fun hHeld => ?_)
       clear hKK KK
       try simp only [nm]
       refine rd1 4 fun KK hKK => ?_
       go_simp
       have hs44 := (hs42.push #[.int .i64 16, .string ⟨#[]⟩, .int .i64 0, .int .i64 (cur E (adv s 1)).at_, .slice none 0 0] 25); try simp only [sz] at hs44
       clear hs42
       revert hs44
       generalize World.alloc _ _ = wq45
       intro hs44
       clear hHeld
       refine hKK.out _ _ (hs44.a M3 2) (fun hHeld => ?_)
       clear hKK KK
       try simp only [nm]
       refine tk 5 (h := ?_)
       try simp only [nm]
       refine rd1 7 fun KK hKK => ?_
       have a46N := F5 hs44 M1
       go_simp
       clear a46N
       have hs47 := (hs44.swap.set5 (.int .i64 28) (.string ⟨#[]⟩) (.int .i64 0) (.int .i64 (E.tok s.i).at_) (.slice (some ⟨wq43.heap.size, 0, none⟩) 1 1)); try simp only [sz] at hs47
       clear hs44
       revert hs47
       generalize World.setCell _ _ _ = wq48
       intro hs47
       clear hHeld
       refine hKK.out _ _ (hs47.a M3 2) (fun hHeld => ?_)
       clear hKK KK
       try simp only [nm]
       refine wpAnyG_done (by kernel_rfl) ?_ _
       have HS49 := Lib.hid hs47; try simp only [sz] at HS49
       have a50 := J5 (F5 HS49 M0) (F5 HS49 M1) (F3 HS49 M2) (F3 HS49 M3) (F5 HS49 M4)
       clear hs47
       go_wp2_with fail
       go_at_call 42
       refine (at0_rd hE HS49.rd).mono ?_
       rintro e w51 ⟨rfl, hb51⟩
       clear a50
       have HS52 := Lib.hid (HS49.below hb51); try simp only [sz] at HS52
       have a53 := J5 (F5 HS52 M0) (F5 HS52 M1) (F3 HS52 M2) (F3 HS52 M3) (F5 HS52 M4)
       clear hb51
       cases hk : (cur E (adv s 1)).kind == 1 with
       | true =>
        have HSP54 := HSP37; try simp only [hk, sm, reduceIte] at HSP54
        have hk1 : ((E.tok (adv s 1).i).kind == 1) = true := hk
        have hk2 : ((E.tok (adv s 1).i).kind != 1) = false := by simp only [bne, hk1, Bool.not_true]
        go_wp2_with fail
        have hs56 := ((HS52.swap.node [(.mk 16 ⟨#[]⟩ 0 (cur E (adv s 1)).at_ [], .agg #[.int .i64 16, .string ⟨#[]⟩, .int .i64 0, .int .i64 (cur E (adv s 1)).at_, .slice none 0 0])] rfl (memC M0 (mem0 _)) (k := 28) (sx := ⟨#[]⟩) (n := 0) (a := (E.tok s.i).at_) ok_lit ok_lit (hE.at_ _) (by decide) (l := 1) rfl (by decide)).swap4.set5 (.int .i64 28) (.string ⟨#[]⟩) (.int .i64 0) (.int .i64 (E.tok s.i).at_) (.slice (some ⟨wq43.heap.size, 0, none⟩) 1 1))
        refine St.fin (slot := 2) rfl hs56 rfl (hs56.bx.tr _ M0) ?_
        exact HSP54.out
       | false =>
       have HSP54 := HSP37; try simp only [hk, sm] at HSP54
       have hk1 : ((E.tok (adv s 1).i).kind == 1) = false := hk
       have hk2 : ((E.tok (adv s 1).i).kind != 1) = true := by simp only [bne, hk1, Bool.not_false]
       cases hst : stopsB E (adv s 1) with
       | true =>
        have HSP55 := HSP54; try simp only [hst, reduceIte] at HSP55
        go_wp2_with fail
        go_at_call 84
        refine (stops_rd hE HS52.rd).mono ?_
        rw [hst]
        rintro e w56 ⟨rfl, hb56⟩
        clear a53
        have HS57 := Lib.hid (HS52.below hb56); try simp only [sz] at HS57
        have a58 := J5 (F5 HS57 M0) (F5 HS57 M1) (F3 HS57 M2) (F3 HS57 M3) (F5 HS57 M4)
        clear hb56
        go_wp2_with fail
        have hs60 := ((HS57.swap.node [(.mk 16 ⟨#[]⟩ 0 (cur E (adv s 1)).at_ [], .agg #[.int .i64 16, .string ⟨#[]⟩, .int .i64 0, .int .i64 (cur E (adv s 1)).at_, .slice none 0 0])] rfl (memC M0 (mem0 _)) (k := 28) (sx := ⟨#[]⟩) (n := 0) (a := (E.tok s.i).at_) ok_lit ok_lit (hE.at_ _) (by decide) (l := 1) rfl (by decide)).swap4.set5 (.int .i64 28) (.string ⟨#[]⟩) (.int .i64 0) (.int .i64 (E.tok s.i).at_) (.slice (some ⟨wq43.heap.size, 0, none⟩) 1 1))
        refine St.fin (slot := 2) rfl hs60 rfl (hs60.bx.tr _ M0) ?_
        exact HSP55.out
       | false =>
       have HSP55 := HSP54; try simp only [hst, sm, reduceIte] at HSP55
       go_wp2_with fail
       go_at_call 84
       refine (stops_rd hE HS52.rd).mono ?_
       rw [hst]
       rintro e w56 ⟨rfl, hb56⟩
       clear a53
       have HS57 := Lib.hid (HS52.below hb56); try simp only [sz] at HS57
       have a58 := J5 (F5 HS57 M0) (F5 HS57 M1) (F3 HS57 M2) (F3 HS57 M3) (F5 HS57 M4)
       clear hb56
       go_wp2_with fail
       clear a58
       have hs59 := HS57.drew
       refine wp_region_G [] (fun Wx => Wx.cell? ⟨w39.heap.size, 4, none⟩ = some (.slice (some ⟨wq43.heap.size, 0, none⟩) 1 1)) (by rfl) ?_ (fun hHeld => ?_)
       · exact hs59.a M0 4
       revert hs59 hHeld
       generalize World.drew _ = wd59
       intro hs59 hHeld
       refine tk 0 (h := tk 1 (h := tk 2 (h := ?_)))
       try simp only [nm]
       refine rd1 3 fun KK hKK => ?_
       go_simp
       go_at_call 37
       refine Post.nd HSP55 HNE (fun h0 => hK.expr _ _ hs59.rd h0) (be hs59.fp) ?_
       intro k60 t60 n60 a60 ks60 s60 A60 cap60 w60 HSP60 hv60 hr60 hf60
       have hs61 := (hs59.read hr60 hf60 hv60); try simp only [sz] at hs61
       clear hs59 hHeld
       refine hKK.out _ _ (hs61.a M0 4) (fun hHeld => ?_)
       clear hKK KK
       try simp only [nm]
       refine tk 4 (h := ?_)
       try simp only [nm]
       refine rd1 5 fun KK hKK => ?_
       have q62_0 := hs61.a M1 0
       have y62_0 := hs61.bx.fz M1 0
       have q62_1 := hs61.a M1 1
       have y62_1 := hs61.bx.fz M1 1
       have q62_2 := hs61.a M1 2
       have y62_2 := hs61.bx.fz M1 2
       have q62_3 := hs61.a M1 3
       have y62_3 := hs61.bx.fz M1 3
       have q62_4 := hs61.a M1 4
       have y62_4 := hs61.bx.fz M1 4
       go_simp
       clear q62_0 y62_0 q62_1 y62_1 q62_2 y62_2 q62_3 y62_3 q62_4 y62_4
       have hs63 := (((((hs61.swap.setRow 0 (.int .i64 k60)).setRow 1 (.string t60)).setRow 2 (.int .i64 n60)).setRow 3 (.int .i64 a60)).setRow 4 (.slice A60 ks60.length cap60)); try simp only [sz] at hs63
       clear hs61
       revert hs63
       generalize World.setCell _ _ _ = wq64
       intro hs63
       clear hHeld
       refine hKK.out _ _ (hs63.a M1 4) (fun hHeld => ?_)
       clear hKK KK
       try simp only [nm]
       refine wpAnyG_done (by kernel_rfl) ?_ _
       have HS65 := Lib.hid hs63; try simp only [sz] at HS65
       have a66 := J5 (F5 HS65 M0) (F5 HS65 M1) (F3 HS65 M2) (F3 HS65 M3) (F5 HS65 M4)
       clear hs63
       go_wp2_with fail
       have hs68 := ((HS65.node [(.mk k60 t60 n60 a60 ks60, .agg #[.int .i64 k60, .string t60, .int .i64 n60, .int .i64 a60, .slice A60 ks60.length cap60])] rfl (memC M0 (mem0 _)) (k := 28) (sx := ⟨#[]⟩) (n := 0) (a := (E.tok s.i).at_) ok_lit ok_lit (hE.at_ _) (by decide) (l := 1) rfl (by decide)).swap4.set5 (.int .i64 28) (.string ⟨#[]⟩) (.int .i64 0) (.int .i64 (E.tok s.i).at_) (.slice (some ⟨wq43.heap.size, 0, none⟩) 1 1))
       refine St.fin (slot := 2) rfl hs68 rfl (hs68.bx.tr _ M0) ?_
       exact HSP60.out
     ·
      go_simp
      have hs39 := (hs38.pz); try simp only [sz] at hs39
      clear hs38
      revert hs39
      generalize World.alloc _ _ = wq40
      intro hs39
      clear hHeld
      refine hKK.out _ _ (hs39.a M2 2) (fun hHeld => ?_)
      clear hKK KK
      try simp only [nm]
      refine rd1 3 fun KK hKK => ?_
      go_simp
      go_at_call 145
      refine (none_rd hE hs39.rd).mono ?_
      rintro e w41 ⟨rfl, hb41⟩
      have hs43 := ((hs39.below hb41).tree (t := .mk 16 ⟨#[]⟩ 0 (cur E (adv s 1)).at_ []) (v := .agg #[.int .i64 16, .string ⟨#[]⟩, .int .i64 0, .int .i64 (cur E (adv s 1)).at_, .slice none 0 0]) (LiesP.leaf ok_lit ok_lit (hE.at_ _) (by decide))); try simp only [sz] at hs43
      clear hs39 hHeld
      refine hKK.out _ _ (hs43.a M2 2) (fun hHeld => ?_)
      clear hKK KK
      try simp only [nm]
      refine rd1 4 fun KK hKK => ?_
      go_simp
      have hs44 := (hs43.push #[.int .i64 16, .string ⟨#[]⟩, .int .i64 0, .int .i64 (cur E (adv s 1)).at_, .slice none 0 0] 25); try simp only [sz] at hs44
      clear hs43
      revert hs44
      generalize World.alloc _ _ = wq45
      intro hs44
      clear hHeld
      refine hKK.out _ _ (hs44.a M3 2) (fun hHeld => ?_)
      clear hKK KK
      try simp only [nm]
      refine tk 5 (h := ?_)
      try simp only [nm]
      refine rd1 7 fun KK hKK => ?_
      have a46N := F5 hs44 M1
      go_simp
      clear a46N
      have hs47 := (hs44.swap.set5 (.int .i64 28) (.string ⟨#[]⟩) (.int .i64 0) (.int .i64 (E.tok s.i).at_) (.slice (some ⟨w41.heap.size, 0, none⟩) 1 1)); try simp only [sz] at hs47
      clear hs44
      revert hs47
      generalize World.setCell _ _ _ = wq48
      intro hs47
      clear hHeld
      refine hKK.out _ _ (hs47.a M3 2) (fun hHeld => ?_)
      clear hKK KK
      try simp only [nm]
      refine wpAnyG_done (by kernel_rfl) ?_ _
      have HS49 := Lib.hid hs47; try simp only [sz] at HS49
      have a50 := J5 (F5 HS49 M0) (F5 HS49 M1) (F3 HS49 M2) (F3 HS49 M3) (F5 HS49 M4)
      clear hs47
      go_wp2_with fail
      go_at_call 42
      refine (at0_rd hE HS49.rd).mono ?_
      rintro e w51 ⟨rfl, hb51⟩
      clear a50
      have HS52 := Lib.hid (HS49.below hb51); try simp only [sz] at HS52
      have a53 := J5 (F5 HS52 M0) (F5 HS52 M1) (F3 HS52 M2) (F3 HS52 M3) (F5 HS52 M4)
      clear hb51
      cases hk : (cur E (adv s 1)).kind == 1 with
      | true =>
       have HSP54 := HSP37; try simp only [hk, sm, reduceIte] at HSP54
       have hk1 : ((E.tok (adv s 1).i).kind == 1) = true := hk
       have hk2 : ((E.tok (adv s 1).i).kind != 1) = false := by simp only [bne, hk1, Bool.not_true]
       go_wp2_with fail
       have hs56 := ((HS52.swap.node [(.mk 16 ⟨#[]⟩ 0 (cur E (adv s 1)).at_ [], .agg #[.int .i64 16, .string ⟨#[]⟩, .int .i64 0, .int .i64 (cur E (adv s 1)).at_, .slice none 0 0])] rfl (memC M0 (mem0 _)) (k := 28) (sx := ⟨#[]⟩) (n := 0) (a := (E.tok s.i).at_) ok_lit ok_lit (hE.at_ _) (by decide) (l := 1) rfl (by decide)).swap4.set5 (.int .i64 28) (.string ⟨#[]⟩) (.int .i64 0) (.int .i64 (E.tok s.i).at_) (.slice (some ⟨w41.heap.size, 0, none⟩) 1 1))
       refine St.fin (slot := 2) rfl hs56 rfl (hs56.bx.tr _ M0) ?_
       exact HSP54.out
      | false =>
      have HSP54 := HSP37; try simp only [hk, sm] at HSP54
      have hk1 : ((E.tok (adv s 1).i).kind == 1) = false := hk
      have hk2 : ((E.tok (adv s 1).i).kind != 1) = true := by simp only [bne, hk1, Bool.not_false]
      cases hst : stopsB E (adv s 1) with
      | true =>
       have HSP55 := HSP54; try simp only [hst, reduceIte] at HSP55
       go_wp2_with fail
       go_at_call 84
       refine (stops_rd hE HS52.rd).mono ?_
       rw [hst]
       rintro e w56 ⟨rfl, hb56⟩
       clear a53
       have HS57 := Lib.hid (HS52.below hb56); try simp only [sz] at HS57
       have a58 := J5 (F5 HS57 M0) (F5 HS57 M1) (F3 HS57 M2) (F3 HS57 M3) (F5 HS57 M4)
       clear hb56
       go_wp2_with fail
       have hs60 := ((HS57.swap.node [(.mk 16 ⟨#[]⟩ 0 (cur E (adv s 1)).at_ [], .agg #[.int .i64 16, .string ⟨#[]⟩, .int .i64 0, .int .i64 (cur E (adv s 1)).at_, .slice none 0 0])] rfl (memC M0 (mem0 _)) (k := 28) (sx := ⟨#[]⟩) (n := 0) (a := (E.tok s.i).at_) ok_lit ok_lit (hE.at_ _) (by decide) (l := 1) rfl (by decide)).swap4.set5 (.int .i64 28) (.string ⟨#[]⟩) (.int .i64 0) (.int .i64 (E.tok s.i).at_) (.slice (some ⟨w41.heap.size, 0, none⟩) 1 1))
       refine St.fin (slot := 2) rfl hs60 rfl (hs60.bx.tr _ M0) ?_
       exact HSP55.out
      | false =>
      have HSP55 := HSP54; try simp only [hst, sm, reduceIte] at HSP55
      go_wp2_with fail
      go_at_call 84
      refine (stops_rd hE HS52.rd).mono ?_
      rw [hst]
      rintro e w56 ⟨rfl, hb56⟩
      clear a53
      have HS57 := Lib.hid (HS52.below hb56); try simp only [sz] at HS57
      have a58 := J5 (F5 HS57 M0) (F5 HS57 M1) (F3 HS57 M2) (F3 HS57 M3) (F5 HS57 M4)
      clear hb56
      go_wp2_with fail
      clear a58
      have hs59 := HS57.drew
      refine wp_region_G [] (fun Wx => Wx.cell? ⟨wd38.heap.size, 4, none⟩ = some (.slice (some ⟨w41.heap.size, 0, none⟩) 1 1)) (by rfl) ?_ (fun hHeld => ?_)
      · exact hs59.a M0 4
      revert hs59 hHeld
      generalize World.drew _ = wd59
      intro hs59 hHeld
      refine tk 0 (h := tk 1 (h := tk 2 (h := ?_)))
      try simp only [nm]
      refine rd1 3 fun KK hKK => ?_
      go_simp
      go_at_call 37
      refine Post.nd HSP55 HNE (fun h0 => hK.expr _ _ hs59.rd h0) (be hs59.fp) ?_
      intro k60 t60 n60 a60 ks60 s60 A60 cap60 w60 HSP60 hv60 hr60 hf60
      have hs61 := (hs59.read hr60 hf60 hv60); try simp only [sz] at hs61
      clear hs59 hHeld
      refine hKK.out _ _ (hs61.a M0 4) (fun hHeld => ?_)
      clear hKK KK
      try simp only [nm]
      refine tk 4 (h := ?_)
      try simp only [nm]
      refine rd1 5 fun KK hKK => ?_
      have q62_0 := hs61.a M1 0
      have y62_0 := hs61.bx.fz M1 0
      have q62_1 := hs61.a M1 1
      have y62_1 := hs61.bx.fz M1 1
      have q62_2 := hs61.a M1 2
      have y62_2 := hs61.bx.fz M1 2
      have q62_3 := hs61.a M1 3
      have y62_3 := hs61.bx.fz M1 3
      have q62_4 := hs61.a M1 4
      have y62_4 := hs61.bx.fz M1 4
      go_simp
      clear q62_0 y62_0 q62_1 y62_1 q62_2 y62_2 q62_3 y62_3 q62_4 y62_4
      have hs63 := (((((hs61.swap.setRow 0 (.int .i64 k60)).setRow 1 (.string t60)).setRow 2 (.int .i64 n60)).setRow 3 (.int .i64 a60)).setRow 4 (.slice A60 ks60.length cap60)); try simp only [sz] at hs63
      clear hs61
      revert hs63
      generalize World.setCell _ _ _ = wq64
      intro hs63
      clear hHeld
      refine hKK.out _ _ (hs63.a M1 4) (fun hHeld => ?_)
      clear hKK KK
      try simp only [nm]
      refine wpAnyG_done (by kernel_rfl) ?_ _
      have HS65 := Lib.hid hs63; try simp only [sz] at HS65
      have a66 := J5 (F5 HS65 M0) (F5 HS65 M1) (F3 HS65 M2) (F3 HS65 M3) (F5 HS65 M4)
      clear hs63
      go_wp2_with fail
      have hs68 := ((HS65.node [(.mk k60 t60 n60 a60 ks60, .agg #[.int .i64 k60, .string t60, .int .i64 n60, .int .i64 a60, .slice A60 ks60.length cap60])] rfl (memC M0 (mem0 _)) (k := 28) (sx := ⟨#[]⟩) (n := 0) (a := (E.tok s.i).at_) ok_lit ok_lit (hE.at_ _) (by decide) (l := 1) rfl (by decide)).swap4.set5 (.int .i64 28) (.string ⟨#[]⟩) (.int .i64 0) (.int .i64 (E.tok s.i).at_) (.slice (some ⟨w41.heap.size, 0, none⟩) 1 1))
      refine St.fin (slot := 2) rfl hs68 rfl (hs68.bx.tr _ M0) ?_
      exact HSP60.out
    | false =>
    have HSP33 := HSP29; try simp only [hr, sm, reduceIte] at HSP33
    have htk33 : takeS E [114, 101, 116, 117, 114, 110] s = s := by rw [takeS, hr]; rfl
    go_wp2_with fail
    go_at_call 86
    refine (take_any hE HS31.rd ⟨#[114, 101, 116, 117, 114, 110]⟩ [114, 101, 116, 117, 114, 110] rfl).mono ?_
    rw [hr]
    rw [htk33]
    rintro e w34 ⟨rfl, hr34, hf34⟩
    clear a32
    have HS35 := Lib.hid (HS31.go hr34 hf34); try simp only [sz] at HS35
    have a36 := J3 (F3 HS35 M0) (F3 HS35 M1) (F5 HS35 M2)
    clear hr34 hf34
    cases hd : isT E s [100, 101, 102, 101, 114] with
    | true =>
     have HSP37 := HSP33; try simp only [hd, reduceIte] at HSP37
     have htk37 : takeS E [100, 101, 102, 101, 114] s = adv s 1 := by rw [takeS, hd]; rfl
     go_wp2_with fail
     go_at_call 86
     refine (take_any hE HS35.rd ⟨#[100, 101, 102, 101, 114]⟩ [100, 101, 102, 101, 114] rfl).mono ?_
     rw [hd]
     rw [htk37]
     rintro e w38 ⟨rfl, hr38, hf38⟩
     clear a36
     have HS39 := Lib.hid (HS35.go hr38 hf38); try simp only [sz] at HS39
     have a40 := J3 (F3 HS39 M0) (F3 HS39 M1) (F5 HS39 M2)
     clear hr38 hf38
     go_wp2_with fail
     clear a40
     have hs41 := HS39.drew
     refine wp_region_G [] (fun Wx => Wx.cell? ⟨w5.heap.size, 2, none⟩ = some (.int .i64 (E.tok s.i).at_)) (by rfl) ?_ (fun hHeld => ?_)
     · exact hs41.a M1 2
     revert hs41 hHeld
     generalize World.drew _ = wd41
     intro hs41 hHeld
     refine tk 0 (h := tk 1 (h := tk 2 (h := ?_)))
     try simp only [nm]
     refine wpAnyG_ready (rs := [3, 6]) (by kernel_rfl) (by simp) ?_
     refine AllReadyG.cons rfl (fun KK hKK => ?_) (AllReadyG.cons rfl (fun KK hKK => ?_) AllReadyG.nil)
     ·
      go_simp
      go_at_call 146
      refine Post.nd HSP37 HNE (fun h0 => post_rd hE hK hix hs41.rd h0) (be hs41.fp) ?_
      intro k42 t42 n42 a42 ks42 s42 A42 cap42 w42 HSP42 hv42 hr42 hf42
      have hs43 := (hs41.read hr42 hf42 hv42); try simp only [sz] at hs43
      clear hs41 hHeld
      refine hKK.out _ _ (hs43.a M1 2) (fun hHeld => ?_)
      clear hKK KK
      try simp only [nm]
      refine wpAnyG_ready (rs := [4, 6]) (by kernel_rfl) (by simp) ?_
      refine AllReadyG.cons rfl (fun KK hKK => ?_) (AllReadyG.cons rfl (fun KK hKK => ?_) AllReadyG.nil)
      ·
       go_simp
       have hs44 := (hs43.pn k42 t42 n42 a42 (.slice A42 ks42.length cap42)); try simp only [sz] at hs44
       clear hs43
       revert hs44
       generalize World.alloc _ _ = wq45
       intro hs44
       clear hHeld
       refine hKK.out _ _ (hs44.a M2 2) (fun hHeld => ?_)
       clear hKK KK
       try simp only [nm]
       refine tk 5 (h := ?_)
       try simp only [nm]
       refine rd1 6 fun KK hKK => ?_
       go_simp
       have hs46 := (hs44.pz); try simp only [sz] at hs46
       clear hs44
       revert hs46
       generalize World.alloc _ _ = wq47
       intro hs46
       clear hHeld
       refine hKK.out _ _ (hs46.a M3 2) (fun hHeld => ?_)
       clear hKK KK
       try simp only [nm]
       refine rd1 7 fun KK hKK => ?_
       have a48N := F5 hs46 M0
       go_simp
       clear a48N
       have hs49 := (hs46.set5 (.int .i64 29) (.string ⟨#[]⟩) (.int .i64 0) (.int .i64 (E.tok s.i).at_) (.slice (some ⟨w42.heap.size, 0, none⟩) 1 1)); try simp only [sz] at hs49
       clear hs46
       revert hs49
       generalize World.setCell _ _ _ = wq50
       intro hs49
       clear hHeld
       refine hKK.out _ _ (hs49.a M3 2) (fun hHeld => ?_)
       clear hKK KK
       try simp only [nm]
       refine wpAnyG_done (by kernel_rfl) ?_ _
       have HS51 := Lib.hid hs49; try simp only [sz] at HS51
       have a52N := F5 HS51 M0
       have a52L := F5 HS51 M1
       have a52 := J3 (F3 HS51 M2) (F3 HS51 M3) (F5 HS51 M4)
       clear hs49
       have HSP53 := HSP42; try simp only [Nd.kind] at HSP53
       cases h48 : k42 == 48 with
       | true =>
        have HSP54 := HSP53; try simp only [h48, reduceIte] at HSP54
        obtain rfl : k42 = 48 := by simpa using h48
        clear h48
        have HS55 := Lib.hid (HS51.out); try simp only [sz] at HS55
        have a56 := J5 (F5 HS55 M0) (F5 HS55 M1) (F3 HS55 M2) (F3 HS55 M3) (F5 HS55 M4)
        go_wp2_with fail
        have hs58 := ((HS55.swap.node [(.mk 48 t42 n42 a42 ks42, .agg #[.int .i64 48, .string t42, .int .i64 n42, .int .i64 a42, .slice A42 ks42.length cap42])] rfl (memC M0 (mem0 _)) (k := 29) (sx := ⟨#[]⟩) (n := 0) (a := (E.tok s.i).at_) ok_lit ok_lit (hE.at_ _) (by decide) (l := 1) rfl (by decide)).swap4.set5 (.int .i64 29) (.string ⟨#[]⟩) (.int .i64 0) (.int .i64 (E.tok s.i).at_) (.slice (some ⟨w42.heap.size, 0, none⟩) 1 1))
        refine St.fin (slot := 2) rfl hs58 rfl (hs58.bx.tr _ M0) ?_
        exact HSP54.out
       | false =>
       have HSP54 := HSP53; try simp only [h48, sm, reduceIte] at HSP54
       have h48' : (k42 != 48) = true := by simp only [bne, h48, Bool.not_false]
       go_wp2_with fail
       go_at_call 44
       refine (fail_any hE HS51.rd).mono ?_
       rintro e wz ⟨rfl, hbz⟩
       exact ⟨rfl, bad_end (HSP54.out).symm (HS51.below hbz).fp⟩
      ·
       go_simp
       have hs44 := (hs43.pz); try simp only [sz] at hs44
       clear hs43
       revert hs44
       generalize World.alloc _ _ = wq45
       intro hs44
       clear hHeld
       refine hKK.out _ _ (hs44.a M2 2) (fun hHeld => ?_)
       clear hKK KK
       try simp only [nm]
       refine rd1 4 fun KK hKK => ?_
       go_simp
       have hs46 := (hs44.pn k42 t42 n42 a42 (.slice A42 ks42.length cap42)); try simp only [sz] at hs46
       clear hs44
       revert hs46
       generalize World.alloc _ _ = wq47
       intro hs46
       clear hHeld
       refine hKK.out _ _ (hs46.a M3 2) (fun hHeld => ?_)
       clear hKK KK
       try simp only [nm]
       refine tk 5 (h := ?_)
       try simp only [nm]
       refine rd1 7 fun KK hKK => ?_
       have a48N := F5 hs46 M1
       go_simp
       clear a48N
       have hs49 := (hs46.swap.set5 (.int .i64 29) (.string ⟨#[]⟩) (.int .i64 0) (.int .i64 (E.tok s.i).at_) (.slice (some ⟨wq45.heap.size, 0, none⟩) 1 1)); try simp only [sz] at hs49
       clear hs46
       revert hs49
       generalize World.setCell _ _ _ = wq50
       intro hs49
       clear hHeld
       refine hKK.out _ _ (hs49.a M3 2) (fun hHeld => ?_)
       clear hKK KK
       try simp only [nm]
       refine wpAnyG_done (by kernel_rfl) ?_ _
       have HS51 := Lib.hid hs49; try simp only [sz] at HS51
       have a52N := F5 HS51 M0
       have a52L := F5 HS51 M1
       have a52 := J3 (F3 HS51 M2) (F3 HS51 M3) (F5 HS51 M4)
       clear hs49
       have HSP53 := HSP42; try simp only [Nd.kind] at HSP53
       cases h48 : k42 == 48 with
       | true =>
        have HSP54 := HSP53; try simp only [h48, reduceIte] at HSP54
        obtain rfl : k42 = 48 := by simpa using h48
        clear h48
        have HS55 := Lib.hid (HS51.out); try simp only [sz] at HS55
        have a56 := J5 (F5 HS55 M0) (F5 HS55 M1) (F3 HS55 M2) (F3 HS55 M3) (F5 HS55 M4)
        go_wp2_with fail
        have hs58 := ((HS55.swap.node [(.mk 48 t42 n42 a42 ks42, .agg #[.int .i64 48, .string t42, .int .i64 n42, .int .i64 a42, .slice A42 ks42.length cap42])] rfl (memC M0 (mem0 _)) (k := 29) (sx := ⟨#[]⟩) (n := 0) (a := (E.tok s.i).at_) ok_lit ok_lit (hE.at_ _) (by decide) (l := 1) rfl (by decide)).swap4.set5 (.int .i64 29) (.string ⟨#[]⟩) (.int .i64 0) (.int .i64 (E.tok s.i).at_) (.slice (some ⟨wq45.heap.size, 0, none⟩) 1 1))
        refine St.fin (slot := 2) rfl hs58 rfl (hs58.bx.tr _ M0) ?_
        exact HSP54.out
       | false =>
       have HSP54 := HSP53; try simp only [h48, sm, reduceIte] at HSP54
       have h48' : (k42 != 48) = true := by simp only [bne, h48, Bool.not_false]
       go_wp2_with fail
       go_at_call 44
       refine (fail_any hE HS51.rd).mono ?_
       rintro e wz ⟨rfl, hbz⟩
       exact ⟨rfl, bad_end (HSP54.out).symm (HS51.below hbz).fp⟩
     ·
      go_simp
      have hs42 := (hs41.pz); try simp only [sz] at hs42
      clear hs41
      revert hs42
      generalize World.alloc _ _ = wq43
      intro hs42
      clear hHeld
      refine hKK.out _ _ (hs42.a M2 2) (fun hHeld => ?_)
      clear hKK KK
      try simp only [nm]
      refine rd1 3 fun KK hKK => ?_
      go_simp
      go_at_call 146
      refine Post.nd HSP37 HNE (fun h0 => post_rd hE hK hix hs42.rd h0) (be hs42.fp) ?_
      intro k44 t44 n44 a44 ks44 s44 A44 cap44 w44 HSP44 hv44 hr44 hf44
      have hs45 := (hs42.read hr44 hf44 hv44); try simp only [sz] at hs45
      clear hs42 hHeld
      refine hKK.out _ _ (hs45.a M2 2) (fun hHeld => ?_)
      clear hKK KK
      try simp only [nm]
      refine rd1 4 fun KK hKK => ?_
      go_simp
      have hs46 := (hs45.pn k44 t44 n44 a44 (.slice A44 ks44.length cap44)); try simp only [sz] at hs46
      clear hs45
      revert hs46
      generalize World.alloc _ _ = wq47
      intro hs46
      clear hHeld
      refine hKK.out _ _ (hs46.a M3 2) (fun hHeld => ?_)
      clear hKK KK
      try simp only [nm]
      refine tk 5 (h := ?_)
      try simp only [nm]
      refine rd1 7 fun KK hKK => ?_
      have a48N := F5 hs46 M1
      go_simp
      clear a48N
      have hs49 := (hs46.swap.set5 (.int .i64 29) (.string ⟨#[]⟩) (.int .i64 0) (.int .i64 (E.tok s.i).at_) (.slice (some ⟨w44.heap.size, 0, none⟩) 1 1)); try simp only [sz] at hs49
      clear hs46
      revert hs49
      generalize World.setCell _ _ _ = wq50
      intro hs49
      clear hHeld
      refine hKK.out _ _ (hs49.a M3 2) (fun hHeld => ?_)
      clear hKK KK
      try simp only [nm]
      refine wpAnyG_done (by kernel_rfl) ?_ _
      have HS51 := Lib.hid hs49; try simp only [sz] at HS51
      have a52N := F5 HS51 M0
      have a52L := F5 HS51 M1
      have a52 := J3 (F3 HS51 M2) (F3 HS51 M3) (F5 HS51 M4)
      clear hs49
      have HSP53 := HSP44; try simp only [Nd.kind] at HSP53
      cases h48 : k44 == 48 with
      | true =>
       have HSP54 := HSP53; try simp only [h48, reduceIte] at HSP54
       obtain rfl : k44 = 48 := by simpa using h48
       clear h48
       have HS55 := Lib.hid (HS51.out); try simp only [sz] at HS55
       have a56 := J5 (F5 HS55 M0) (F5 HS55 M1) (F3 HS55 M2) (F3 HS55 M3) (F5 HS55 M4)
       go_wp2_with fail
       have hs58 := ((HS55.swap.node [(.mk 48 t44 n44 a44 ks44, .agg #[.int .i64 48, .string t44, .int .i64 n44, .int .i64 a44, .slice A44 ks44.length cap44])] rfl (memC M0 (mem0 _)) (k := 29) (sx := ⟨#[]⟩) (n := 0) (a := (E.tok s.i).at_) ok_lit ok_lit (hE.at_ _) (by decide) (l := 1) rfl (by decide)).swap4.set5 (.int .i64 29) (.string ⟨#[]⟩) (.int .i64 0) (.int .i64 (E.tok s.i).at_) (.slice (some ⟨w44.heap.size, 0, none⟩) 1 1))
       refine St.fin (slot := 2) rfl hs58 rfl (hs58.bx.tr _ M0) ?_
       exact HSP54.out
      | false =>
      have HSP54 := HSP53; try simp only [h48, sm, reduceIte] at HSP54
      have h48' : (k44 != 48) = true := by simp only [bne, h48, Bool.not_false]
      go_wp2_with fail
      go_at_call 44
      refine (fail_any hE HS51.rd).mono ?_
      rintro e wz ⟨rfl, hbz⟩
      exact ⟨rfl, bad_end (HSP54.out).symm (HS51.below hbz).fp⟩
    | false =>
    have HSP37 := HSP33; try simp only [hd, sm, reduceIte] at HSP37
    have htk37 : takeS E [100, 101, 102, 101, 114] s = s := by rw [takeS, hd]; rfl
    go_wp2_with fail
    go_at_call 86
    refine (take_any hE HS35.rd ⟨#[100, 101, 102, 101, 114]⟩ [100, 101, 102, 101, 114] rfl).mono ?_
    rw [hd]
    rw [htk37]
    rintro e w38 ⟨rfl, hr38, hf38⟩
    clear a36
    have HS39 := Lib.hid (HS35.go hr38 hf38); try simp only [sz] at HS39
    have a40 := J3 (F3 HS39 M0) (F3 HS39 M1) (F5 HS39 M2)
    clear hr38 hf38
    cases hbk : isT E s [98, 114, 101, 97, 107] with
    | true =>
     have HSP41 := HSP37; try simp only [hbk, reduceIte] at HSP41
     have htk41 : takeS E [98, 114, 101, 97, 107] s = adv s 1 := by rw [takeS, hbk]; rfl
     go_wp2_with fail
     go_at_call 86
     refine (take_any hE HS39.rd ⟨#[98, 114, 101, 97, 107]⟩ [98, 114, 101, 97, 107] rfl).mono ?_
     rw [hbk]
     rw [htk41]
     rintro e w42 ⟨rfl, hr42, hf42⟩
     clear a40
     have HS43 := Lib.hid (HS39.go hr42 hf42); try simp only [sz] at HS43
     have a44 := J3 (F3 HS43 M0) (F3 HS43 M1) (F5 HS43 M2)
     clear hr42 hf42
     go_wp2_with fail
     go_at_call 147
     refine Post.use (bind_okR HSP41.out) HNE.out (fun h0 => leave_rd hE HS43.rd (k := 31) (a := (E.tok s.i).at_) ok_lit (hE.at_ _)) (be HS43.fp) ?_
     intro x45 s45 v45 w45 hsp45 hv45 hr45 hf45
     obtain ⟨k45, t45, n45, a45, ks45⟩ := x45
     obtain ⟨A45, cap45, rfl⟩ := VNd.form hv45
     clear a44
     have HS46 := Lib.hid (HS43.read hr45 hf45 hv45); try simp only [sz] at HS46
     have a47 := J3 (F3 HS46 M0) (F3 HS46 M1) (F5 HS46 M2)
     have HSP45 := Lib.hid hsp45
     clear hsp45 hr45 hf45
     go_wp2_with fail
     have hs48 := (HS46.swap3.set5 (.int .i64 k45) (.string t45) (.int .i64 n45) (.int .i64 a45) (.slice A45 ks45.length cap45))
     refine St.fin (slot := 2) rfl hs48 rfl (hs48.bx.tr _ M0) ?_
     exact HSP45.out
    | false =>
    have HSP41 := HSP37; try simp only [hbk, sm, reduceIte] at HSP41
    have htk41 : takeS E [98, 114, 101, 97, 107] s = s := by rw [takeS, hbk]; rfl
    go_wp2_with fail
    go_at_call 86
    refine (take_any hE HS39.rd ⟨#[98, 114, 101, 97, 107]⟩ [98, 114, 101, 97, 107] rfl).mono ?_
    rw [hbk]
    rw [htk41]
    rintro e w42 ⟨rfl, hr42, hf42⟩
    clear a40
    have HS43 := Lib.hid (HS39.go hr42 hf42); try simp only [sz] at HS43
    have a44 := J3 (F3 HS43 M0) (F3 HS43 M1) (F5 HS43 M2)
    clear hr42 hf42
    cases hcn : isT E s [99, 111, 110, 116, 105, 110, 117, 101] with
    | true =>
     have HSP45 := HSP41; try simp only [hcn, reduceIte] at HSP45
     have htk45 : takeS E [99, 111, 110, 116, 105, 110, 117, 101] s = adv s 1 := by rw [takeS, hcn]; rfl
     go_wp2_with fail
     go_at_call 86
     refine (take_any hE HS43.rd ⟨#[99, 111, 110, 116, 105, 110, 117, 101]⟩ [99, 111, 110, 116, 105, 110, 117, 101] rfl).mono ?_
     rw [hcn]
     rw [htk45]
     rintro e w46 ⟨rfl, hr46, hf46⟩
     clear a44
     have HS47 := Lib.hid (HS43.go hr46 hf46); try simp only [sz] at HS47
     have a48 := J3 (F3 HS47 M0) (F3 HS47 M1) (F5 HS47 M2)
     clear hr46 hf46
     go_wp2_with fail
     go_at_call 147
     refine Post.use (bind_okR HSP45.out) HNE.out (fun h0 => leave_rd hE HS47.rd (k := 32) (a := (E.tok s.i).at_) ok_lit (hE.at_ _)) (be HS47.fp) ?_
     intro x49 s49 v49 w49 hsp49 hv49 hr49 hf49
     obtain ⟨k49, t49, n49, a49, ks49⟩ := x49
     obtain ⟨A49, cap49, rfl⟩ := VNd.form hv49
     clear a48
     have HS50 := Lib.hid (HS47.read hr49 hf49 hv49); try simp only [sz] at HS50
     have a51 := J3 (F3 HS50 M0) (F3 HS50 M1) (F5 HS50 M2)
     have HSP49 := Lib.hid hsp49
     clear hsp49 hr49 hf49
     go_wp2_with fail
     have hs52 := (HS50.swap3.set5 (.int .i64 k49) (.string t49) (.int .i64 n49) (.int .i64 a49) (.slice A49 ks49.length cap49))
     refine St.fin (slot := 2) rfl hs52 rfl (hs52.bx.tr _ M0) ?_
     exact HSP49.out
    | false =>
    have HSP45 := HSP41; try simp only [hcn, sm, reduceIte] at HSP45
    have htk45 : takeS E [99, 111, 110, 116, 105, 110, 117, 101] s = s := by rw [takeS, hcn]; rfl
    go_wp2_with fail
    go_at_call 86
    refine (take_any hE HS43.rd ⟨#[99, 111, 110, 116, 105, 110, 117, 101]⟩ [99, 111, 110, 116, 105, 110, 117, 101] rfl).mono ?_
    rw [hcn]
    rw [htk45]
    rintro e w46 ⟨rfl, hr46, hf46⟩
    clear a44
    have HS47 := Lib.hid (HS43.go hr46 hf46); try simp only [sz] at HS47
    have a48 := J3 (F3 HS47 M0) (F3 HS47 M1) (F5 HS47 M2)
    clear hr46 hf46
    cases hft : isT E s [102, 97, 108, 108, 116, 104, 114, 111, 117, 103, 104] with
    | true =>
     have HSP49 := HSP45; try simp only [hft, reduceIte] at HSP49
     have htk49 : takeS E [102, 97, 108, 108, 116, 104, 114, 111, 117, 103, 104] s = adv s 1 := by rw [takeS, hft]; rfl
     go_wp2_with fail
     go_at_call 86
     refine (take_any hE HS47.rd ⟨#[102, 97, 108, 108, 116, 104, 114, 111, 117, 103, 104]⟩ [102, 97, 108, 108, 116, 104, 114, 111, 117, 103, 104] rfl).mono ?_
     rw [hft]
     rw [htk49]
     rintro e w50 ⟨rfl, hr50, hf50⟩
     clear a48
     have HS51 := Lib.hid (HS47.go hr50 hf50); try simp only [sz] at HS51
     have a52 := J3 (F3 HS51 M0) (F3 HS51 M1) (F5 HS51 M2)
     clear hr50 hf50
     have HS54 := Lib.hid (HS51.tree (t := .mk 33 ⟨#[]⟩ 0 (E.tok s.i).at_ []) (v := .agg #[.int .i64 33, .string ⟨#[]⟩, .int .i64 0, .int .i64 (E.tok s.i).at_, .slice none 0 0]) (LiesP.leaf ok_lit ok_lit (hE.at_ _) (by decide))); try simp only [sz] at HS54
     have a55 := J3 (F3 HS54 M0) (F3 HS54 M1) (F5 HS54 M2)
     go_wp2_with fail
     have hs56 := (HS54.swap3.set5 (.int .i64 33) (.string ⟨#[]⟩) (.int .i64 0) (.int .i64 (E.tok s.i).at_) (.slice none 0 0))
     refine St.fin (slot := 2) rfl hs56 rfl (hs56.bx.tr _ M0) ?_
     exact HSP49.out
    | false =>
    have HSP49 := HSP45; try simp only [hft, sm, reduceIte] at HSP49
    have htk49 : takeS E [102, 97, 108, 108, 116, 104, 114, 111, 117, 103, 104] s = s := by rw [takeS, hft]; rfl
    go_wp2_with fail
    go_at_call 86
    refine (take_any hE HS47.rd ⟨#[102, 97, 108, 108, 116, 104, 114, 111, 117, 103, 104]⟩ [102, 97, 108, 108, 116, 104, 114, 111, 117, 103, 104] rfl).mono ?_
    rw [hft]
    rw [htk49]
    rintro e w50 ⟨rfl, hr50, hf50⟩
    clear a48
    have HS51 := Lib.hid (HS47.go hr50 hf50); try simp only [sz] at HS51
    have a52 := J3 (F3 HS51 M0) (F3 HS51 M1) (F5 HS51 M2)
    clear hr50 hf50
    go_wp2_with fail
    go_at_call 148
    refine Post.use (bind_okR HSP49.out) HNE.out (fun h0 => simple_rd hE hK hix HS51.rd h0) (be HS51.fp) ?_
    intro x53 s53 v53 w53 hsp53 hv53 hr53 hf53
    obtain ⟨k53, t53, n53, a53, ks53⟩ := x53
    obtain ⟨A53, cap53, rfl⟩ := VNd.form hv53
    clear a52
    have HS54 := Lib.hid (HS51.read hr53 hf53 hv53); try simp only [sz] at HS54
    have a55 := J3 (F3 HS54 M0) (F3 HS54 M1) (F5 HS54 M2)
    have HSP53 := Lib.hid hsp53
    clear hsp53 hr53 hf53
    go_wp2_with fail
    have hs56 := (HS54.swap3.set5 (.int .i64 k53) (.string t53) (.int .i64 n53) (.int .i64 a53) (.slice A53 ks53.length cap53))
    refine St.fin (slot := 2) rfl hs56 rfl (hs56.bx.tr _ M0) ?_
    exact HSP53.out

end
end Go.Proofs.YtokhfhibdeneeaaGreatDoor
