/- unary, two, simple. -/
import Derived.Test.YtokhfhibdeneeaaGreatDoorPaR
import Derived.Test.YtokhfhibdeneeaaGreatDoorMLiesP
namespace Go.Proofs.YtokhfhibdeneeaaGreatDoor
open Go.RowKit
section
variable {E : Env} {M : Rm} {w0 W w1 W' : World} {rows : List Rw} {gs : Option Gv} {ts : List (Nd × Value)} {st s s' : Rs} {K : Kn} {g : Gv}

set_option maxRecDepth 100000 in
set_option maxHeartbeats 4000000 in
theorem unary_rd (hE : EnvOk E M) (hK : KOK E M K) (hix : IndexOk E M K) (h : RdAt E M s W) (hne : unaryR E K s ≠ .out) :
 Calls Tryz.prog 137 #[.pointer (some ⟨M.bp, 0, none⟩)] W (Post E M VNd W (unaryR E K s)) := by
 obtain ⟨R, HR⟩ : ∃ R, Hid (unaryR E K s = R) := ⟨_, rfl⟩
 have hneR : R ≠ .out := by rw [← HR.out]; exact hne
 clear hne
 rw [HR.out]
 have HNE := Lib.hid hneR
 have HSP0 := HR
 unfold unaryR at HSP0
 have HS1 := Lib.hid ((St.init h).pz)
 try simp only [World.size_alloc] at HS1
 have a1R := F5 HS1 M0
 have hfi0 := fieldTok0
 have hfi1 := fieldTok1
 have hfi2 := fieldTok2
 have hfn0 := fieldNd0
 have hfn1 := fieldNd1
 have hn0 := hE.n
 clear hneR h
 go_enter Tryz.func137, Tryz.ntmps137
 go_wp2_with fail
 go_at_call 42
 refine (at0_rd hE HS1.rd).mono ?_
 rintro e w2 ⟨rfl, hb2⟩
 clear a1R
 have HS3 := Lib.hid ((HS1.below hb2).push #[.int .i64 (E.tok (s).i).kind, .string (E.tok (s).i).str, .int .i64 (E.tok (s).i).at_] 46); try simp only [sz] at HS3
 have a4 := J2 (F3 HS3 M0) (F5 HS3 M1)
 clear hb2
 cases hk : (cur E s).kind == 7 with
 | true =>
  have HSP5 := HSP0; try simp only [hk, reduceIte] at HSP5
  have hk1 : ((E.tok s.i).kind == 7) = true := hk
  cases p0 : (cur E s).text == [45] with
  | true =>
   have HSP6 := HSP5; try simp only [p0, sm, reduceIte] at HSP6
   have p0t : ((E.tok s.i).str.toList == [45]) = true := str_eq _ _ p0
   have hlt : s.i < E.n := kind_ltB hE.ok hk1 (by decide)
   have c7_1 := HS3.rd.c1
   have f7_1 := HS3.rd.fz 1
   have HS8 := Lib.hid (HS3.adv1 hE (by first | omega | (simp only [adv]; omega))); try simp only [sz] at HS8
   have a9 := J2 (F3 HS8 M0) (F5 HS8 M1)
   have c9_4 := HS8.rd.c4
   have f9_4 := HS8.rd.fz 4
   have HS10 := Lib.hid (HS8.setTyp hE false); try simp only [sz] at HS10
   have a11 := J2 (F3 HS10 M0) (F5 HS10 M1)
   go_wp2_with fail
   clear a4 c7_1 f7_1 a9 c9_4 f9_4 a11
   have hs12 := HS10.drew
   refine wp_region_G [] (fun Wx => Wx.cell? ⟨w2.heap.size, 1, none⟩ = some (.string (E.tok (s).i).str) ∧ Wx.cell? ⟨w2.heap.size, 2, none⟩ = some (.int .i64 (E.tok (s).i).at_)) (by rfl) ?_ (fun hHeld => ?_)
   · exact ⟨hs12.a M0 1, hs12.a M0 2⟩
   revert hs12 hHeld
   generalize World.drew _ = wd12
   intro hs12 hHeld
   refine tk 0 (h := tk 1 (h := tk 2 (h := tk 3 (h := tk 4 (h := ?_)))))
   try simp only [nm]
   refine rd1 5 fun KK hKK => ?_
   go_simp
   go_at_call 137
   refine Post.nd HSP6 HNE (fun h0 => hK.unary _ _ hs12.rd h0) (be hs12.fp) ?_
   intro k13 t13 n13 a13 ks13 s13 A13 cap13 w13 HSP13 hv13 hr13 hf13
   have hs14 := (hs12.read hr13 hf13 hv13); try simp only [sz] at hs14
   clear hs12 hHeld
   refine hKK.out _ _ (⟨hs14.a M0 1, hs14.a M0 2⟩) (fun hHeld => ?_)
   clear hKK KK
   try simp only [nm]
   refine rd1 6 fun KK hKK => ?_
   go_simp
   have hs15 := (hs14.pn k13 t13 n13 a13 (.slice A13 ks13.length cap13)); try simp only [sz] at hs15
   clear hs14
   revert hs15
   generalize World.alloc _ _ = wq16
   intro hs15
   clear hHeld
   refine hKK.out _ _ (⟨hs15.a M1 1, hs15.a M1 2⟩) (fun hHeld => ?_)
   clear hKK KK
   refine tk 7 (h := ?_)
   try simp only [nm]
   refine rd1 8 fun KK hKK => ?_
   have a17R := F5 hs15 M2
   go_simp
   clear a17R
   have hs18 := (hs15.swap3.set5 (.int .i64 50) (.string (E.tok s.i).str) (.int .i64 0) (.int .i64 (E.tok s.i).at_) (.slice (some ⟨w13.heap.size, 0, none⟩) 1 1)); try simp only [sz] at hs18
   clear hs15 hHeld
   refine hKK.out _ _ (⟨hs18.a M2 1, hs18.a M2 2⟩) (fun hHeld => ?_)
   clear hKK KK
   try simp only [nm]
   refine wpAnyG_done (by kernel_rfl) ?_ _
   have HS19 := Lib.hid hs18; try simp only [sz] at HS19
   clear hs18
   go_wp2_with fail
   have hs21 := (HS19.swap.node [(.mk k13 t13 n13 a13 ks13, .agg #[.int .i64 k13, .string t13, .int .i64 n13, .int .i64 a13, .slice A13 ks13.length cap13])] rfl (memC M0 (mem0 _)) (k := 50) (sx := (E.tok s.i).str) (n := 0) (a := (E.tok s.i).at_) ok_lit ok_lit (hE.at_ _) (hE.str _) (l := 1) rfl (by decide))
   refine St.fin (slot := 2) rfl hs21 rfl (hs21.bx.tr _ M0) ?_
   exact HSP13.out
  | false =>
  have HSP6 := HSP5; try simp only [p0, sm] at HSP6
  have p0t : ((E.tok s.i).str.toList == [45]) = false := str_eq _ _ p0
  cases p1 : (cur E s).text == [33] with
  | true =>
   have HSP7 := HSP6; try simp only [p1, sm, reduceIte] at HSP7
   have p1t : ((E.tok s.i).str.toList == [33]) = true := str_eq _ _ p1
   have hlt : s.i < E.n := kind_ltB hE.ok hk1 (by decide)
   have c8_1 := HS3.rd.c1
   have f8_1 := HS3.rd.fz 1
   have HS9 := Lib.hid (HS3.adv1 hE (by first | omega | (simp only [adv]; omega))); try simp only [sz] at HS9
   have a10 := J2 (F3 HS9 M0) (F5 HS9 M1)
   have c10_4 := HS9.rd.c4
   have f10_4 := HS9.rd.fz 4
   have HS11 := Lib.hid (HS9.setTyp hE false); try simp only [sz] at HS11
   have a12 := J2 (F3 HS11 M0) (F5 HS11 M1)
   go_wp2_with fail
   clear a4 c8_1 f8_1 a10 c10_4 f10_4 a12
   have hs13 := HS11.drew
   refine wp_region_G [] (fun Wx => Wx.cell? ⟨w2.heap.size, 1, none⟩ = some (.string (E.tok (s).i).str) ∧ Wx.cell? ⟨w2.heap.size, 2, none⟩ = some (.int .i64 (E.tok (s).i).at_)) (by rfl) ?_ (fun hHeld => ?_)
   · exact ⟨hs13.a M0 1, hs13.a M0 2⟩
   revert hs13 hHeld
   generalize World.drew _ = wd13
   intro hs13 hHeld
   refine tk 0 (h := tk 1 (h := tk 2 (h := tk 3 (h := tk 4 (h := ?_)))))
   try simp only [nm]
   refine rd1 5 fun KK hKK => ?_
   go_simp
   go_at_call 137
   refine Post.nd HSP7 HNE (fun h0 => hK.unary _ _ hs13.rd h0) (be hs13.fp) ?_
   intro k14 t14 n14 a14 ks14 s14 A14 cap14 w14 HSP14 hv14 hr14 hf14
   have hs15 := (hs13.read hr14 hf14 hv14); try simp only [sz] at hs15
   clear hs13 hHeld
   refine hKK.out _ _ (⟨hs15.a M0 1, hs15.a M0 2⟩) (fun hHeld => ?_)
   clear hKK KK
   try simp only [nm]
   refine rd1 6 fun KK hKK => ?_
   go_simp
   have hs16 := (hs15.pn k14 t14 n14 a14 (.slice A14 ks14.length cap14)); try simp only [sz] at hs16
   clear hs15
   revert hs16
   generalize World.alloc _ _ = wq17
   intro hs16
   clear hHeld
   refine hKK.out _ _ (⟨hs16.a M1 1, hs16.a M1 2⟩) (fun hHeld => ?_)
   clear hKK KK
   refine tk 7 (h := ?_)
   try simp only [nm]
   refine rd1 8 fun KK hKK => ?_
   have a18R := F5 hs16 M2
   go_simp
   clear a18R
   have hs19 := (hs16.swap3.set5 (.int .i64 50) (.string (E.tok s.i).str) (.int .i64 0) (.int .i64 (E.tok s.i).at_) (.slice (some ⟨w14.heap.size, 0, none⟩) 1 1)); try simp only [sz] at hs19
   clear hs16 hHeld
   refine hKK.out _ _ (⟨hs19.a M2 1, hs19.a M2 2⟩) (fun hHeld => ?_)
   clear hKK KK
   try simp only [nm]
   refine wpAnyG_done (by kernel_rfl) ?_ _
   have HS20 := Lib.hid hs19; try simp only [sz] at HS20
   clear hs19
   go_wp2_with fail
   have hs22 := (HS20.swap.node [(.mk k14 t14 n14 a14 ks14, .agg #[.int .i64 k14, .string t14, .int .i64 n14, .int .i64 a14, .slice A14 ks14.length cap14])] rfl (memC M0 (mem0 _)) (k := 50) (sx := (E.tok s.i).str) (n := 0) (a := (E.tok s.i).at_) ok_lit ok_lit (hE.at_ _) (hE.str _) (l := 1) rfl (by decide))
   refine St.fin (slot := 2) rfl hs22 rfl (hs22.bx.tr _ M0) ?_
   exact HSP14.out
  | false =>
  have HSP7 := HSP6; try simp only [p1, sm] at HSP7
  have p1t : ((E.tok s.i).str.toList == [33]) = false := str_eq _ _ p1
  cases p2 : (cur E s).text == [94] with
  | true =>
   have HSP8 := HSP7; try simp only [p2, sm, reduceIte] at HSP8
   have p2t : ((E.tok s.i).str.toList == [94]) = true := str_eq _ _ p2
   have hlt : s.i < E.n := kind_ltB hE.ok hk1 (by decide)
   have c9_1 := HS3.rd.c1
   have f9_1 := HS3.rd.fz 1
   have HS10 := Lib.hid (HS3.adv1 hE (by first | omega | (simp only [adv]; omega))); try simp only [sz] at HS10
   have a11 := J2 (F3 HS10 M0) (F5 HS10 M1)
   have c11_4 := HS10.rd.c4
   have f11_4 := HS10.rd.fz 4
   have HS12 := Lib.hid (HS10.setTyp hE false); try simp only [sz] at HS12
   have a13 := J2 (F3 HS12 M0) (F5 HS12 M1)
   go_wp2_with fail
   clear a4 c9_1 f9_1 a11 c11_4 f11_4 a13
   have hs14 := HS12.drew
   refine wp_region_G [] (fun Wx => Wx.cell? ⟨w2.heap.size, 1, none⟩ = some (.string (E.tok (s).i).str) ∧ Wx.cell? ⟨w2.heap.size, 2, none⟩ = some (.int .i64 (E.tok (s).i).at_)) (by rfl) ?_ (fun hHeld => ?_)
   · exact ⟨hs14.a M0 1, hs14.a M0 2⟩
   revert hs14 hHeld
   generalize World.drew _ = wd14
   intro hs14 hHeld
   refine tk 0 (h := tk 1 (h := tk 2 (h := tk 3 (h := tk 4 (h := ?_)))))
   try simp only [nm]
   refine rd1 5 fun KK hKK => ?_
   go_simp
   go_at_call 137
   refine Post.nd HSP8 HNE (fun h0 => hK.unary _ _ hs14.rd h0) (be hs14.fp) ?_
   intro k15 t15 n15 a15 ks15 s15 A15 cap15 w15 HSP15 hv15 hr15 hf15
   have hs16 := (hs14.read hr15 hf15 hv15); try simp only [sz] at hs16
   clear hs14 hHeld
   refine hKK.out _ _ (⟨hs16.a M0 1, hs16.a M0 2⟩) (fun hHeld => ?_)
   clear hKK KK
   try simp only [nm]
   refine rd1 6 fun KK hKK => ?_
   go_simp
   have hs17 := (hs16.pn k15 t15 n15 a15 (.slice A15 ks15.length cap15)); try simp only [sz] at hs17
   clear hs16
   revert hs17
   generalize World.alloc _ _ = wq18
   intro hs17
   clear hHeld
   refine hKK.out _ _ (⟨hs17.a M1 1, hs17.a M1 2⟩) (fun hHeld => ?_)
   clear hKK KK
   refine tk 7 (h := ?_)
   try simp only [nm]
   refine rd1 8 fun KK hKK => ?_
   have a19R := F5 hs17 M2
   go_simp
   clear a19R
   have hs20 := (hs17.swap3.set5 (.int .i64 50) (.string (E.tok s.i).str) (.int .i64 0) (.int .i64 (E.tok s.i).at_) (.slice (some ⟨w15.heap.size, 0, none⟩) 1 1)); try simp only [sz] at hs20
   clear hs17 hHeld
   refine hKK.out _ _ (⟨hs20.a M2 1, hs20.a M2 2⟩) (fun hHeld => ?_)
   clear hKK KK
   try simp only [nm]
   refine wpAnyG_done (by kernel_rfl) ?_ _
   have HS21 := Lib.hid hs20; try simp only [sz] at HS21
   clear hs20
   go_wp2_with fail
   have hs23 := (HS21.swap.node [(.mk k15 t15 n15 a15 ks15, .agg #[.int .i64 k15, .string t15, .int .i64 n15, .int .i64 a15, .slice A15 ks15.length cap15])] rfl (memC M0 (mem0 _)) (k := 50) (sx := (E.tok s.i).str) (n := 0) (a := (E.tok s.i).at_) ok_lit ok_lit (hE.at_ _) (hE.str _) (l := 1) rfl (by decide))
   refine St.fin (slot := 2) rfl hs23 rfl (hs23.bx.tr _ M0) ?_
   exact HSP15.out
  | false =>
  have HSP8 := HSP7; try simp only [p2, sm] at HSP8
  have p2t : ((E.tok s.i).str.toList == [94]) = false := str_eq _ _ p2
  cases p3 : (cur E s).text == [42] with
  | true =>
   have HSP9 := HSP8; try simp only [p3, reduceIte] at HSP9
   have p3t : ((E.tok s.i).str.toList == [42]) = true := str_eq _ _ p3
   have hlt : s.i < E.n := kind_ltB hE.ok hk1 (by decide)
   have c10_1 := HS3.rd.c1
   have f10_1 := HS3.rd.fz 1
   have HS11 := Lib.hid (HS3.adv1 hE (by first | omega | (simp only [adv]; omega))); try simp only [sz] at HS11
   have a12 := J2 (F3 HS11 M0) (F5 HS11 M1)
   have c12_4 := HS11.rd.c4
   have f12_4 := HS11.rd.fz 4
   have HS13 := Lib.hid (HS11.setTyp hE false); try simp only [sz] at HS13
   have a14 := J2 (F3 HS13 M0) (F5 HS13 M1)
   go_wp2_with fail
   clear a4 c10_1 f10_1 a12 c12_4 f12_4 a14
   have hs15 := HS13.drew
   refine wp_region_G [] (fun Wx => Wx.cell? ⟨w2.heap.size, 1, none⟩ = some (.string (E.tok (s).i).str) ∧ Wx.cell? ⟨w2.heap.size, 2, none⟩ = some (.int .i64 (E.tok (s).i).at_)) (by rfl) ?_ (fun hHeld => ?_)
   · exact ⟨hs15.a M0 1, hs15.a M0 2⟩
   revert hs15 hHeld
   generalize World.drew _ = wd15
   intro hs15 hHeld
   refine tk 0 (h := tk 1 (h := tk 2 (h := tk 3 (h := tk 4 (h := ?_)))))
   try simp only [nm]
   refine rd1 5 fun KK hKK => ?_
   go_simp
   go_at_call 137
   refine Post.nd HSP9 HNE (fun h0 => hK.unary _ _ hs15.rd h0) (be hs15.fp) ?_
   intro k16 t16 n16 a16 ks16 s16 A16 cap16 w16 HSP16 hv16 hr16 hf16
   have hs17 := (hs15.read hr16 hf16 hv16); try simp only [sz] at hs17
   clear hs15 hHeld
   refine hKK.out _ _ (⟨hs17.a M0 1, hs17.a M0 2⟩) (fun hHeld => ?_)
   clear hKK KK
   try simp only [nm]
   refine rd1 6 fun KK hKK => ?_
   go_simp
   have hs18 := (hs17.pn k16 t16 n16 a16 (.slice A16 ks16.length cap16)); try simp only [sz] at hs18
   clear hs17
   revert hs18
   generalize World.alloc _ _ = wq19
   intro hs18
   clear hHeld
   refine hKK.out _ _ (⟨hs18.a M1 1, hs18.a M1 2⟩) (fun hHeld => ?_)
   clear hKK KK
   refine tk 7 (h := ?_)
   try simp only [nm]
   refine rd1 8 fun KK hKK => ?_
   have a20R := F5 hs18 M2
   go_simp
   clear a20R
   have hs21 := (hs18.swap3.set5 (.int .i64 50) (.string (E.tok s.i).str) (.int .i64 0) (.int .i64 (E.tok s.i).at_) (.slice (some ⟨w16.heap.size, 0, none⟩) 1 1)); try simp only [sz] at hs21
   clear hs18 hHeld
   refine hKK.out _ _ (⟨hs21.a M2 1, hs21.a M2 2⟩) (fun hHeld => ?_)
   clear hKK KK
   try simp only [nm]
   refine wpAnyG_done (by kernel_rfl) ?_ _
   have HS22 := Lib.hid hs21; try simp only [sz] at HS22
   clear hs21
   go_wp2_with fail
   have hs24 := (HS22.swap.node [(.mk k16 t16 n16 a16 ks16, .agg #[.int .i64 k16, .string t16, .int .i64 n16, .int .i64 a16, .slice A16 ks16.length cap16])] rfl (memC M0 (mem0 _)) (k := 50) (sx := (E.tok s.i).str) (n := 0) (a := (E.tok s.i).at_) ok_lit ok_lit (hE.at_ _) (hE.str _) (l := 1) rfl (by decide))
   refine St.fin (slot := 2) rfl hs24 rfl (hs24.bx.tr _ M0) ?_
   exact HSP16.out
  | false =>
  have HSP9 := HSP8; try simp only [p3, sm, reduceIte] at HSP9
  have p3t : ((E.tok s.i).str.toList == [42]) = false := str_eq _ _ p3
  cases pA : (cur E s).text == [38] with
  | true =>
   have HSP10 := HSP9; try simp only [pA, sm] at HSP10
   have pAt : ((E.tok s.i).str.toList == [38]) = true := str_eq _ _ pA
   have c11_3 := HS3.rd.c3
   have f11_3 := HS3.rd.fz 3
   obtain ⟨b1, hb1⟩ : ∃ b, s.head = b := ⟨_, rfl⟩
   rw [hb1] at c11_3
   have HB1 := Lib.hid hb1
   clear hb1
   cases b1 with
   | true =>
    have HSP12 := HSP10; try simp only [HB1.out, sm, reduceIte] at HSP12
    go_wp2_with fail
    go_at_call 146
    refine Post.use (bind_okR HSP12.out) HNE.out (fun h0 => post_rd hE hK hix HS3.rd h0) (be HS3.fp) ?_
    intro x13 s13 v13 w13 hsp13 hv13 hr13 hf13
    obtain ⟨k13, t13, n13, a13, ks13⟩ := x13
    obtain ⟨A13, cap13, rfl⟩ := VNd.form hv13
    clear a4 c11_3 f11_3
    have HS14 := Lib.hid (HS3.read hr13 hf13 hv13); try simp only [sz] at HS14
    have a15 := J2 (F3 HS14 M0) (F5 HS14 M1)
    have HSP13 := Lib.hid hsp13
    clear hsp13 hr13 hf13
    go_wp2_with fail
    have hs16 := (HS14.swap.set5 (.int .i64 k13) (.string t13) (.int .i64 n13) (.int .i64 a13) (.slice A13 ks13.length cap13))
    refine St.fin (slot := 2) rfl hs16 rfl (hs16.bx.tr _ M0) ?_
    exact HSP13.out
   | false =>
   have HSP12 := HSP10; try simp only [HB1.out, sm, reduceIte] at HSP12
   have hlt : s.i < E.n := kind_ltB hE.ok hk1 (by decide)
   have c13_1 := HS3.rd.c1
   have f13_1 := HS3.rd.fz 1
   have HS14 := Lib.hid (HS3.adv1 hE (by first | omega | (simp only [adv]; omega))); try simp only [sz] at HS14
   have a15 := J2 (F3 HS14 M0) (F5 HS14 M1)
   go_wp2_with fail
   go_at_call 42
   refine (at0_rd hE HS14.rd).mono ?_
   rintro e w16 ⟨rfl, hb16⟩
   clear a4 c11_3 f11_3 c13_1 f13_1 a15
   have HS17 := Lib.hid (HS14.below hb16); try simp only [sz] at HS17
   have a18 := J2 (F3 HS17 M0) (F5 HS17 M1)
   clear hb16
   obtain ⟨b2, hb2⟩ : ∃ b, namedB (cur E (adv s 1)) = b := ⟨_, rfl⟩
   go_wp2_with fail
   go_at_call 141
   refine (named_tok (E := E) (adv s 1).i _).mono ?_
   rw [show namedB (E.tok (adv s 1).i) = b2 from hb2]
   rintro e w19 ⟨rfl, hb19⟩
   clear a18
   have HS20 := Lib.hid (HS17.below hb19); try simp only [sz] at HS20
   have a21 := J2 (F3 HS20 M0) (F5 HS20 M1)
   clear hb19
   cases b2 with
   | false =>
    have HSB : Hid (Rr.bad (adv s 1).i = R) := by have h0 := HSP12.out; unfold nameR at h0; rw [hb2] at h0; exact h0
    go_wp2_with fail
    go_at_call 44
    refine (fail_any hE HS20.rd).mono ?_
    rintro e wz ⟨rfl, hbz⟩
    exact ⟨rfl, bad_end (HSB.out).symm (HS20.below hbz).fp⟩
   | true =>
   go_wp2_with fail
   go_at_call 87
   refine Post.use HSP12.out HNE.out (fun h0 => name_nm hE HS20.rd) (be HS20.fp) ?_
   intro x22 s22 v22 w22 hsp22 hv22 hr22 hf22
   obtain ⟨t22, a22, rfl, rfl, ha22, ht22⟩ := hv22
   clear a21
   have HS23 := Lib.hid (((HS20.go hr22 hf22).tree (t := .mk 14 t22 0 a22 []) (v := .agg #[.int .i64 14, .string t22, .int .i64 0, .int .i64 a22, .slice none 0 0]) (LiesP.leaf ok_lit ok_lit ha22 ht22)).pn 14 t22 0 a22 (.slice none 0 0)); try simp only [sz] at HS23
   have a24 := J3 (F5 HS23 M0) (F3 HS23 M1) (F5 HS23 M2)
   have HSP22 := Lib.hid hsp22
   clear hsp22 hr22 hf22
   go_wp2_with fail
   clear a24
   have hs25 := HS23.drew
   refine wp_region_G [] (fun Wx => Wx.cell? ⟨w2.heap.size, 2, none⟩ = some (.int .i64 (E.tok (s).i).at_) ∧ Wx.cell? ⟨w22.heap.size, 0, none⟩ = some (.int .i64 14) ∧ Wx.cell? ⟨w22.heap.size, 1, none⟩ = some (.string t22) ∧ Wx.cell? ⟨w22.heap.size, 2, none⟩ = some (.int .i64 0) ∧ Wx.cell? ⟨w22.heap.size, 3, none⟩ = some (.int .i64 a22) ∧ Wx.cell? ⟨w22.heap.size, 4, none⟩ = some (.slice none 0 0)) (by rfl) ?_ (fun hHeld => ?_)
   · exact ⟨hs25.a M1 2, hs25.a M0 0, hs25.a M0 1, hs25.a M0 2, hs25.a M0 3, hs25.a M0 4⟩
   revert hs25 hHeld
   generalize World.drew _ = wd25
   intro hs25 hHeld
   refine tk 0 (h := tk 1 (h := tk 2 (h := tk 3 (h := ?_))))
   try simp only [nm]
   refine rd1 4 fun KK hKK => ?_
   go_simp
   go_at_call 180
   refine Post.nd HSP22 HNE (fun h0 => make_rd hE hK hs25.rd ha22 ht22 h0) (be hs25.fp) ?_
   intro k26 t26 n26 a26 ks26 s26 A26 cap26 w26 HSP26 hv26 hr26 hf26
   have hs27 := (hs25.read hr26 hf26 hv26); try simp only [sz] at hs27
   clear hs25 hHeld
   refine hKK.out _ _ (⟨hs27.a M1 2, hs27.a M0 0, hs27.a M0 1, hs27.a M0 2, hs27.a M0 3, hs27.a M0 4⟩) (fun hHeld => ?_)
   clear hKK KK
   try simp only [nm]
   refine rd1 5 fun KK hKK => ?_
   go_simp
   have hs28 := (hs27.pn k26 t26 n26 a26 (.slice A26 ks26.length cap26)); try simp only [sz] at hs28
   clear hs27
   revert hs28
   generalize World.alloc _ _ = wq29
   intro hs28
   clear hHeld
   refine hKK.out _ _ (⟨hs28.a M2 2, hs28.a M1 0, hs28.a M1 1, hs28.a M1 2, hs28.a M1 3, hs28.a M1 4⟩) (fun hHeld => ?_)
   clear hKK KK
   refine tk 6 (h := ?_)
   try simp only [nm]
   refine rd1 7 fun KK hKK => ?_
   have a30R := F5 hs28 M3
   go_simp
   clear a30R
   have hs31 := (hs28.swap4.set5 (.int .i64 42) (.string ⟨#[]⟩) (.int .i64 0) (.int .i64 (E.tok s.i).at_) (.slice (some ⟨w26.heap.size, 0, none⟩) 1 1)); try simp only [sz] at hs31
   clear hs28 hHeld
   refine hKK.out _ _ (⟨hs31.a M3 2, hs31.a M2 0, hs31.a M2 1, hs31.a M2 2, hs31.a M2 3, hs31.a M2 4⟩) (fun hHeld => ?_)
   clear hKK KK
   try simp only [nm]
   refine wpAnyG_done (by kernel_rfl) ?_ _
   have HS32 := Lib.hid hs31; try simp only [sz] at HS32
   clear hs31
   go_wp2_with fail
   have hs34 := (HS32.swap.node [(.mk k26 t26 n26 a26 ks26, .agg #[.int .i64 k26, .string t26, .int .i64 n26, .int .i64 a26, .slice A26 ks26.length cap26])] rfl (memC M0 (mem0 _)) (k := 42) (sx := ⟨#[]⟩) (n := 0) (a := (E.tok s.i).at_) ok_lit ok_lit (hE.at_ _) (by decide) (l := 1) rfl (by decide))
   refine St.fin (slot := 2) rfl hs34 rfl (hs34.bx.tr _ M0) ?_
   exact HSP26.out
  | false =>
  have HSP10 := HSP9; try simp only [pA, sm, reduceIte] at HSP10
  have pAt : ((E.tok s.i).str.toList == [38]) = false := str_eq _ _ pA
  go_wp2_with fail
  go_at_call 146
  refine Post.use (bind_okR HSP10.out) HNE.out (fun h0 => post_rd hE hK hix HS3.rd h0) (be HS3.fp) ?_
  intro x11 s11 v11 w11 hsp11 hv11 hr11 hf11
  obtain ⟨k11, t11, n11, a11, ks11⟩ := x11
  obtain ⟨A11, cap11, rfl⟩ := VNd.form hv11
  clear a4
  have HS12 := Lib.hid (HS3.read hr11 hf11 hv11); try simp only [sz] at HS12
  have a13 := J2 (F3 HS12 M0) (F5 HS12 M1)
  have HSP11 := Lib.hid hsp11
  clear hsp11 hr11 hf11
  go_wp2_with fail
  have hs14 := (HS12.swap.set5 (.int .i64 k11) (.string t11) (.int .i64 n11) (.int .i64 a11) (.slice A11 ks11.length cap11))
  refine St.fin (slot := 2) rfl hs14 rfl (hs14.bx.tr _ M0) ?_
  exact HSP11.out
 | false =>
 have HSP5 := HSP0; try simp only [hk, sm, reduceIte] at HSP5
 have hk1 : ((E.tok s.i).kind == 7) = false := hk
 go_wp2_with fail
 go_at_call 146
 refine Post.use (bind_okR HSP5.out) HNE.out (fun h0 => post_rd hE hK hix HS3.rd h0) (be HS3.fp) ?_
 intro x6 s6 v6 w6 hsp6 hv6 hr6 hf6
 obtain ⟨k6, t6, n6, a6, ks6⟩ := x6
 obtain ⟨A6, cap6, rfl⟩ := VNd.form hv6
 clear a4
 have HS7 := Lib.hid (HS3.read hr6 hf6 hv6); try simp only [sz] at HS7
 have a8 := J2 (F3 HS7 M0) (F5 HS7 M1)
 have HSP6 := Lib.hid hsp6
 clear hsp6 hr6 hf6
 go_wp2_with fail
 have hs9 := (HS7.swap.set5 (.int .i64 k6) (.string t6) (.int .i64 n6) (.int .i64 a6) (.slice A6 ks6.length cap6))
 refine St.fin (slot := 2) rfl hs9 rfl (hs9.bx.tr _ M0) ?_
 exact HSP6.out

theorem bind_assocR {α β γ : Type} (r : Rr α) (k : α → Rs → Rr β) (k2 : β → Rs → Rr γ) : (r.bind k).bind k2 = r.bind fun x s => (k x s).bind k2 := by cases r <;> rfl

set_option maxRecDepth 100000 in
set_option maxHeartbeats 4000000 in
theorem two_rd (hE : EnvOk E M) (hK : KOK E M K) (hix : IndexOk E M K) (h : RdAt E M s W) (hne : twoR E K s ≠ .out) :
 Calls Tryz.prog 142 #[.pointer (some ⟨M.bp, 0, none⟩)] W (Post E M VNd W (twoR E K s)) := by
 obtain ⟨R, HR⟩ : ∃ R, Hid (twoR E K s = R) := ⟨_, rfl⟩
 have hneR : R ≠ .out := by rw [← HR.out]; exact hne
 clear hne
 rw [HR.out]
 have HNE := Lib.hid hneR
 have HSP0 := HR
 unfold twoR at HSP0
 have HS1 := Lib.hid ((St.init h).pz)
 try simp only [World.size_alloc] at HS1
 have a1R := F5 HS1 M0
 have hfi0 := fieldTok0
 have hfi1 := fieldTok1
 have hfi2 := fieldTok2
 have hfn0 := fieldNd0
 have hfn1 := fieldNd1
 have hn0 := hE.n
 clear hneR h
 obtain ⟨i0, hi0, hz0, hz1, hz2⟩ := info_parts infoNd
 go_enter Tryz.func142, Tryz.ntmps142
 go_wp2_with fail
 go_at_call 42
 refine (at0_rd hE HS1.rd).mono ?_
 rintro e w2 ⟨rfl, hb2⟩
 clear a1R
 have HS3 := Lib.hid (HS1.below hb2); try simp only [sz] at HS3
 have a4R := F5 HS3 M0
 clear hb2
 go_wp2_with fail
 go_at_call 87
 refine Post.use HSP0.out HNE.out (fun h0 => name_nm hE HS3.rd) (be HS3.fp) ?_
 intro x5 s5 v5 w5 hsp5 hv5 hr5 hf5
 obtain ⟨t5, a5, rfl, rfl, ha5, ht5⟩ := hv5
 clear a4R
 have HS6 := Lib.hid ((((HS3.go hr5 hf5).tree (t := .mk 14 t5 0 a5 []) (v := .agg #[.int .i64 14, .string t5, .int .i64 0, .int .i64 a5, .slice none 0 0]) (LiesP.leaf ok_lit ok_lit ha5 ht5)).pn 14 t5 0 a5 (.slice none 0 0)).push #[.int .i64 21, .string ⟨#[]⟩, .int .i64 0, .int .i64 (E.tok s.i).at_, .slice (some ⟨w5.heap.size, 0, none⟩) 1 1] 25); try simp only [sz] at HS6
 have a7 := J3 (F5 HS6 M0) (F5 HS6 M1) (F5 HS6 M2)
 have HSP5 := Lib.hid hsp5
 clear hsp5 hr5 hf5
 go_wp2_with fail
 go_at_call 90
 refine Post.use HSP5.out HNE.out (fun _ => want_any hE HS6.rd ⟨#[44]⟩ [44] rfl) (be HS6.fp) ?_
 intro x8 s8 v8 w8 hsp8 hv8 hr8 hf8
 obtain rfl : v8 = _ := hv8
 clear a7
 have HS9 := Lib.hid (HS6.go hr8 hf8); try simp only [sz] at HS9
 have a10 := J3 (F5 HS9 M0) (F5 HS9 M1) (F5 HS9 M2)
 have HSP8 := Lib.hid hsp8
 clear hsp8 hr8 hf8 a10
 have HS11 := Lib.hid (HS9.swap.growN (xs := [(.mk 14 t5 0 a5 [], .agg #[.int .i64 14, .string t5, .int .i64 0, .int .i64 a5, .slice none 0 0])]) rfl (memC M0 (mem0 _)) rfl (by decide) ok_lit ok_lit (hE.at_ _) (by decide)); try simp only [sz] at HS11
 have a12R := F5 HS11 M0
 have gg12 := HS11.gcells
 go_wp2_with fail
 clear a12R gg12
 have hs13 := HS11.drew
 refine wp_region_G [7] (fun Wx => Wx.cell? ⟨(w5.heap.size + 1), 4, none⟩ = some (.slice (some ⟨w5.heap.size, 0, none⟩) 1 1)) (by rfl) ?_ (fun hHeld => ?_)
 · exact hs13.gcells.2.2.2.2.1
 revert hs13 hHeld
 generalize World.drew _ = wd13
 intro hs13 hHeld
 refine tk 0 (h := tk 1 (h := tk 2 (h := ?_)))
 try simp only [nm]
 refine rd1 3 fun KK hKK => ?_
 go_simp
 go_at_call 87
 refine Post.nd HSP8 HNE (fun h0 => name_any hE hs13.rd) (be hs13.fp) ?_
 intro k14 t14 n14 a14 ks14 s14 A14 cap14 w14 HSP14 hv14 hr14 hf14
 have hs15 := (hs13.read hr14 hf14 hv14); try simp only [sz] at hs15
 clear hs13 hHeld
 refine hKK.out _ _ (hs15.gcells.2.2.2.2.1) (fun hHeld => ?_)
 clear hKK KK
 try simp only [nm]
 refine rd1 4 fun KK hKK => ?_
 go_simp
 have hs16 := (hs15.pn k14 t14 n14 a14 (.slice A14 ks14.length cap14)); try simp only [sz] at hs16
 clear hs15
 revert hs16
 generalize World.alloc _ _ = wq17
 intro hs16
 clear hHeld
 refine hKK.out _ _ (hs16.gcells.2.2.2.2.1) (fun hHeld => ?_)
 clear hKK KK
 try simp only [nm]
 refine rd1 5 fun KK hKK => ?_
 refine apl 15 18 hs16 M0 1 (h := ?_)
 intro b18 capb18 w18 ho18 hg18 hb18 hbl18
 obtain ⟨he18, ef18, n418, nf18, hne18, hbox18, hlen18⟩ := hs16.newElem rfl ho18 hg18 hb18
 obtain ⟨e18_0, e18_1, e18_2, e18_3, e18_4⟩ := he18
 have hnx18 : ((w5.heap.size + 1) = b18) = False := by simpa using fun e => hne18 e.symm
 have hny18 : (b18 = (w5.heap.size + 1)) = False := by simpa using hne18
 have HSF18 := Lib.hid (And.intro hs16 (And.intro ho18 (And.intro hg18 (And.intro hb18 (And.intro hbox18 hlen18)))))
 clear hs16 ho18 hg18 hb18 hHeld
 refine hKK.out _ _ (n418) (fun hHeld => ?_)
 clear hKK KK
 refine tk 6 (h := ?_)
 try simp only [nm]
 refine rl1 7 fun KK hKK => ?_
 go_simp
 clear hHeld
 refine hKK.out _ _ ?_
 clear hKK KK
 try simp only [nm]
 refine wpAny_done (by kernel_rfl) ?_ _
 have hA18 := AppTo.whole (lo := W.heap.size) HSF18.out.2.1 HSF18.out.2.2.2.2.1 (fun e => hne18 e.symm)
 have HS19 := Lib.hid ((HSF18.out.1.appendedN (m := 1) (N := 1) (zs := [.int .i64 k14, .string t14, .int .i64 n14, .int .i64 a14, .slice A14 ks14.length cap14]) rfl rfl HSF18.out.2.1 HSF18.out.2.2.1 HSF18.out.2.2.2.1 (ys := [(.mk k14 t14 n14 a14 ks14, .agg #[.int .i64 k14, .string t14, .int .i64 n14, .int .i64 a14, .slice A14 ks14.length cap14])]) (memC M0 (mem0 _)) hA18 rfl).retire); try simp only at HS19
 have a20R := F5 HS19 M0
 have gg20 := HS19.gcells
 cases hd : isT E s14 [58, 61] with
 | true =>
  have HSP21 := HSP14; try simp only [hd, sm, reduceIte] at HSP21
  have htk21 : takeS E [58, 61] s14 = adv s14 1 := by rw [takeS, hd]; rfl
  go_wp2_with fail
  go_at_call 86
  refine (take_any hE HS19.rd ⟨#[58, 61]⟩ [58, 61] rfl).mono ?_
  rw [hd]
  rw [htk21]
  rintro e w22 ⟨rfl, hr22, hf22⟩
  clear a20R gg20
  have HS23 := Lib.hid (HS19.go hr22 hf22); try simp only [sz] at HS23
  have a24R := F5 HS23 M0
  have gg24 := HS23.gcells
  clear hr22 hf22
  go_wp2_with fail
  clear a24R gg24
  have HS25 := Lib.hid (HS23.gkind (k' := 19) ok_lit); try simp only at HS25
  have a26R := F5 HS25 M0
  have gg26 := HS25.gcells
  go_wp2_with fail
  go_at_call 146
  refine Post.use HSP21.out HNE.out (fun h0 => post_rd hE hK hix HS25.rd h0) (be HS25.fp) ?_
  intro x27 s27 v27 w27 hsp27 hv27 hr27 hf27
  obtain ⟨k27, t27, n27, a27, ks27⟩ := x27
  obtain ⟨A27, cap27, rfl⟩ := VNd.form hv27
  clear a26R gg26
  have HS28 := Lib.hid ((HS25.read hr27 hf27 hv27).pn k27 t27 n27 a27 (.slice A27 ks27.length cap27)); try simp only [sz] at HS28
  have a29 := J2 (F5 HS28 M0) (F5 HS28 M1)
  have gg29 := HS28.gcells
  have HSP27 := Lib.hid hsp27
  clear hsp27 hr27 hf27
  have hsp30 := HSP27.out
  simp only [Nd.kind] at hsp30
  have HSP30 := Lib.hid hsp30
  clear hsp30
  cases h46 : k27 == 46 with
  | true =>
   have HSP31 := HSP30; try simp only [h46, sm, reduceIte] at HSP31
   obtain rfl : k27 = 46 := by simpa using h46
   clear h46
   have hs32 := (HS28.pn 46 t27 n27 a27 (.slice A27 ks27.length cap27)); try simp only [sz] at hs32
   go_wp2_with (
    at_builtin
    refine wpList_append_lies _ rfl (.tmp 39) (.tmp 41) 23 rfl W.heap.size 25 i0 _ 5 64 Tryz.underlying23 hi0 hz0 hz1 hz2 rfl (by decide) _ _ _ rfl (show World.ownsRow _ W.heap.size 25 5 (.slice (some ⟨b18, 0, none⟩) (1 + 1) capb18) (1 + 1) (treeCells ([(.mk 14 t5 0 a5 [], .agg #[.int .i64 14, .string t5, .int .i64 0, .int .i64 a5, .slice none 0 0])] ++ [(.mk k14 t14 n14 a14 ks14, .agg #[.int .i64 k14, .string t14, .int .i64 n14, .int .i64 a14, .slice A14 ks14.length cap14])])) from (ownLen (by simp) hs32.gown)) _ 1 1 [.int .i64 46, .string t27, .int .i64 n27, .int .i64 a27, .slice A27 ks27.length cap27] rfl rfl (newsRow (hs32.bx.rw _ M0).2) (by intro u hu; simp only [List.mem_cons, List.not_mem_nil, or_false] at hu; rcases hu with rfl | rfl | rfl | rfl | rfl <;> rfl) (by decide) (by unfold maxLen; omega) (by omega) hs32.bx.size _ rfl ?_
    intro b33 capb33 w33 ho33 hg33 hb33 hbl33
    obtain ⟨he33, ef33, n433, nf33, hne33, hbox33, hlen33⟩ := hs32.newElem (by simp) ho33 hg33 hb33
    obtain ⟨e33_0, e33_1, e33_2, e33_3, e33_4⟩ := he33
    have hnx33 : ((w5.heap.size + 1) = b33) = False := by simpa using fun e => hne33 e.symm
    have hny33 : (b33 = (w5.heap.size + 1)) = False := by simpa using hne33
    have HSF33 := Lib.hid (And.intro hs32 (And.intro ho33 (And.intro hg33 (And.intro hb33 (And.intro hbox33 hlen33)))))
    clear hs32 ho33 hg33 hb33
    have hA33 := AppTo.whole (lo := W.heap.size) HSF33.out.2.1 HSF33.out.2.2.2.2.1 (fun e => hne33 e.symm)
    have hs34 := (HSF33.out.1.appendedN (m := (1 + 1)) (N := 1) (zs := [.int .i64 46, .string t27, .int .i64 n27, .int .i64 a27, .slice A27 ks27.length cap27]) (by simp) rfl HSF33.out.2.1 HSF33.out.2.2.1 HSF33.out.2.2.2.1 (ys := [(.mk 46 t27 n27 a27 ks27, .agg #[.int .i64 46, .string t27, .int .i64 n27, .int .i64 a27, .slice A27 ks27.length cap27])]) (memC M0 (mem0 _)) hA33 rfl); try simp only at hs34
    have a35 := J3 (F5 hs34 M0) (F5 hs34 M1) (F5 hs34 M2)
    have gg35 := hs34.gcells
    have HS34 := Lib.hid hs34
    clear hs34)
   have hs36 := (HS34.swap3.set5 (.int .i64 19) (.string ⟨#[]⟩) (.int .i64 0) (.int .i64 (E.tok s.i).at_) (.slice (some ⟨b33, 0, none⟩) ((1 + 1) + 1) capb33)).grown
   refine St.fin (slot := 2) rfl hs36 rfl (hs36.bx.tr _ M0) ?_
   exact HSP31.out
  | false =>
  have HSP31 := HSP30; try simp only [h46, sm] at HSP31
  have h46n : (k27 != 46) = true := by simp only [bne, h46, Bool.not_false]
  cases h49 : k27 == 49 with
  | true =>
   have HSP32 := HSP31; try simp only [h49, reduceIte] at HSP32
   obtain rfl : k27 = 49 := by simpa using h49
   clear h49
   have hs33 := (HS28.pn 49 t27 n27 a27 (.slice A27 ks27.length cap27)); try simp only [sz] at hs33
   go_wp2_with (
    at_builtin
    refine wpList_append_lies _ rfl (.tmp 39) (.tmp 41) 23 rfl W.heap.size 25 i0 _ 5 64 Tryz.underlying23 hi0 hz0 hz1 hz2 rfl (by decide) _ _ _ rfl (show World.ownsRow _ W.heap.size 25 5 (.slice (some ⟨b18, 0, none⟩) (1 + 1) capb18) (1 + 1) (treeCells ([(.mk 14 t5 0 a5 [], .agg #[.int .i64 14, .string t5, .int .i64 0, .int .i64 a5, .slice none 0 0])] ++ [(.mk k14 t14 n14 a14 ks14, .agg #[.int .i64 k14, .string t14, .int .i64 n14, .int .i64 a14, .slice A14 ks14.length cap14])])) from (ownLen (by simp) hs33.gown)) _ 1 1 [.int .i64 49, .string t27, .int .i64 n27, .int .i64 a27, .slice A27 ks27.length cap27] rfl rfl (newsRow (hs33.bx.rw _ M0).2) (by intro u hu; simp only [List.mem_cons, List.not_mem_nil, or_false] at hu; rcases hu with rfl | rfl | rfl | rfl | rfl <;> rfl) (by decide) (by unfold maxLen; omega) (by omega) hs33.bx.size _ rfl ?_
    intro b34 capb34 w34 ho34 hg34 hb34 hbl34
    obtain ⟨he34, ef34, n434, nf34, hne34, hbox34, hlen34⟩ := hs33.newElem (by simp) ho34 hg34 hb34
    obtain ⟨e34_0, e34_1, e34_2, e34_3, e34_4⟩ := he34
    have hnx34 : ((w5.heap.size + 1) = b34) = False := by simpa using fun e => hne34 e.symm
    have hny34 : (b34 = (w5.heap.size + 1)) = False := by simpa using hne34
    have HSF34 := Lib.hid (And.intro hs33 (And.intro ho34 (And.intro hg34 (And.intro hb34 (And.intro hbox34 hlen34)))))
    clear hs33 ho34 hg34 hb34
    have hA34 := AppTo.whole (lo := W.heap.size) HSF34.out.2.1 HSF34.out.2.2.2.2.1 (fun e => hne34 e.symm)
    have hs35 := (HSF34.out.1.appendedN (m := (1 + 1)) (N := 1) (zs := [.int .i64 49, .string t27, .int .i64 n27, .int .i64 a27, .slice A27 ks27.length cap27]) (by simp) rfl HSF34.out.2.1 HSF34.out.2.2.1 HSF34.out.2.2.2.1 (ys := [(.mk 49 t27 n27 a27 ks27, .agg #[.int .i64 49, .string t27, .int .i64 n27, .int .i64 a27, .slice A27 ks27.length cap27])]) (memC M0 (mem0 _)) hA34 rfl); try simp only at hs35
    have a36 := J3 (F5 hs35 M0) (F5 hs35 M1) (F5 hs35 M2)
    have gg36 := hs35.gcells
    have HS35 := Lib.hid hs35
    clear hs35)
   have hs37 := (HS35.swap3.set5 (.int .i64 19) (.string ⟨#[]⟩) (.int .i64 0) (.int .i64 (E.tok s.i).at_) (.slice (some ⟨b34, 0, none⟩) ((1 + 1) + 1) capb34)).grown
   refine St.fin (slot := 2) rfl hs37 rfl (hs37.bx.tr _ M0) ?_
   exact HSP32.out
  | false =>
  have HSP32 := HSP31; try simp only [h49, sm, reduceIte] at HSP32
  have h49n : (k27 != 49) = true := by simp only [bne, h49, Bool.not_false]
  go_wp2_with fail
  go_at_call 44
  refine (fail_any hE HS28.rd).mono ?_
  rintro e wz ⟨rfl, hbz⟩
  exact ⟨rfl, bad_end (HSP32.out).symm (HS28.below hbz).fp⟩
 | false =>
 have HSP21 := HSP14; try simp only [hd, sm, reduceIte] at HSP21
 have htk21 : takeS E [58, 61] s14 = s14 := by rw [takeS, hd]; rfl
 go_wp2_with fail
 go_at_call 86
 refine (take_any hE HS19.rd ⟨#[58, 61]⟩ [58, 61] rfl).mono ?_
 rw [hd]
 rw [htk21]
 rintro e w22 ⟨rfl, hr22, hf22⟩
 clear a20R gg20
 have HS23 := Lib.hid (HS19.go hr22 hf22); try simp only [sz] at HS23
 have a24R := F5 HS23 M0
 have gg24 := HS23.gcells
 clear hr22 hf22
 have hsp25 := HSP21.out
 simp only [bind_assocR] at hsp25
 have HSP25 := Lib.hid hsp25
 clear hsp25
 go_wp2_with fail
 go_at_call 90
 refine Post.use HSP25.out HNE.out (fun _ => want_any hE HS23.rd ⟨#[61]⟩ [61] rfl) (be HS23.fp) ?_
 intro x26 s26 v26 w26 hsp26 hv26 hr26 hf26
 obtain rfl : v26 = _ := hv26
 clear a24R gg24
 have HS27 := Lib.hid (HS23.go hr26 hf26); try simp only [sz] at HS27
 have a28R := F5 HS27 M0
 have gg28 := HS27.gcells
 have HSP26 := Lib.hid hsp26
 clear hsp26 hr26 hf26
 have HSP29 := HSP26; try simp only [Rr.bind_ok] at HSP29
 go_wp2_with fail
 go_at_call 146
 refine Post.use HSP29.out HNE.out (fun h0 => post_rd hE hK hix HS27.rd h0) (be HS27.fp) ?_
 intro x30 s30 v30 w30 hsp30 hv30 hr30 hf30
 obtain ⟨k30, t30, n30, a30, ks30⟩ := x30
 obtain ⟨A30, cap30, rfl⟩ := VNd.form hv30
 clear a28R gg28
 have HS31 := Lib.hid ((HS27.read hr30 hf30 hv30).pn k30 t30 n30 a30 (.slice A30 ks30.length cap30)); try simp only [sz] at HS31
 have a32 := J2 (F5 HS31 M0) (F5 HS31 M1)
 have gg32 := HS31.gcells
 have HSP30 := Lib.hid hsp30
 clear hsp30 hr30 hf30
 have hsp33 := HSP30.out
 simp only [Nd.kind] at hsp33
 have HSP33 := Lib.hid hsp33
 clear hsp33
 cases h46 : k30 == 46 with
 | true =>
  have HSP34 := HSP33; try simp only [h46, sm, reduceIte] at HSP34
  obtain rfl : k30 = 46 := by simpa using h46
  clear h46
  have hs35 := (HS31.pn 46 t30 n30 a30 (.slice A30 ks30.length cap30)); try simp only [sz] at hs35
  go_wp2_with (
   at_builtin
   refine wpList_append_lies _ rfl (.tmp 39) (.tmp 41) 23 rfl W.heap.size 25 i0 _ 5 64 Tryz.underlying23 hi0 hz0 hz1 hz2 rfl (by decide) _ _ _ rfl (show World.ownsRow _ W.heap.size 25 5 (.slice (some ⟨b18, 0, none⟩) (1 + 1) capb18) (1 + 1) (treeCells ([(.mk 14 t5 0 a5 [], .agg #[.int .i64 14, .string t5, .int .i64 0, .int .i64 a5, .slice none 0 0])] ++ [(.mk k14 t14 n14 a14 ks14, .agg #[.int .i64 k14, .string t14, .int .i64 n14, .int .i64 a14, .slice A14 ks14.length cap14])])) from (ownLen (by simp) hs35.gown)) _ 1 1 [.int .i64 46, .string t30, .int .i64 n30, .int .i64 a30, .slice A30 ks30.length cap30] rfl rfl (newsRow (hs35.bx.rw _ M0).2) (by intro u hu; simp only [List.mem_cons, List.not_mem_nil, or_false] at hu; rcases hu with rfl | rfl | rfl | rfl | rfl <;> rfl) (by decide) (by unfold maxLen; omega) (by omega) hs35.bx.size _ rfl ?_
   intro b36 capb36 w36 ho36 hg36 hb36 hbl36
   obtain ⟨he36, ef36, n436, nf36, hne36, hbox36, hlen36⟩ := hs35.newElem (by simp) ho36 hg36 hb36
   obtain ⟨e36_0, e36_1, e36_2, e36_3, e36_4⟩ := he36
   have hnx36 : ((w5.heap.size + 1) = b36) = False := by simpa using fun e => hne36 e.symm
   have hny36 : (b36 = (w5.heap.size + 1)) = False := by simpa using hne36
   have HSF36 := Lib.hid (And.intro hs35 (And.intro ho36 (And.intro hg36 (And.intro hb36 (And.intro hbox36 hlen36)))))
   clear hs35 ho36 hg36 hb36
   have hA36 := AppTo.whole (lo := W.heap.size) HSF36.out.2.1 HSF36.out.2.2.2.2.1 (fun e => hne36 e.symm)
   have hs37 := (HSF36.out.1.appendedN (m := (1 + 1)) (N := 1) (zs := [.int .i64 46, .string t30, .int .i64 n30, .int .i64 a30, .slice A30 ks30.length cap30]) (by simp) rfl HSF36.out.2.1 HSF36.out.2.2.1 HSF36.out.2.2.2.1 (ys := [(.mk 46 t30 n30 a30 ks30, .agg #[.int .i64 46, .string t30, .int .i64 n30, .int .i64 a30, .slice A30 ks30.length cap30])]) (memC M0 (mem0 _)) hA36 rfl); try simp only at hs37
   have a38 := J3 (F5 hs37 M0) (F5 hs37 M1) (F5 hs37 M2)
   have gg38 := hs37.gcells
   have HS37 := Lib.hid hs37
   clear hs37)
  have hs39 := (HS37.swap3.set5 (.int .i64 21) (.string ⟨#[]⟩) (.int .i64 0) (.int .i64 (E.tok s.i).at_) (.slice (some ⟨b36, 0, none⟩) ((1 + 1) + 1) capb36)).grown
  refine St.fin (slot := 2) rfl hs39 rfl (hs39.bx.tr _ M0) ?_
  exact HSP34.out
 | false =>
 have HSP34 := HSP33; try simp only [h46, sm] at HSP34
 have h46n : (k30 != 46) = true := by simp only [bne, h46, Bool.not_false]
 cases h49 : k30 == 49 with
 | true =>
  have HSP35 := HSP34; try simp only [h49, reduceIte] at HSP35
  obtain rfl : k30 = 49 := by simpa using h49
  clear h49
  have hs36 := (HS31.pn 49 t30 n30 a30 (.slice A30 ks30.length cap30)); try simp only [sz] at hs36
  go_wp2_with (
   at_builtin
   refine wpList_append_lies _ rfl (.tmp 39) (.tmp 41) 23 rfl W.heap.size 25 i0 _ 5 64 Tryz.underlying23 hi0 hz0 hz1 hz2 rfl (by decide) _ _ _ rfl (show World.ownsRow _ W.heap.size 25 5 (.slice (some ⟨b18, 0, none⟩) (1 + 1) capb18) (1 + 1) (treeCells ([(.mk 14 t5 0 a5 [], .agg #[.int .i64 14, .string t5, .int .i64 0, .int .i64 a5, .slice none 0 0])] ++ [(.mk k14 t14 n14 a14 ks14, .agg #[.int .i64 k14, .string t14, .int .i64 n14, .int .i64 a14, .slice A14 ks14.length cap14])])) from (ownLen (by simp) hs36.gown)) _ 1 1 [.int .i64 49, .string t30, .int .i64 n30, .int .i64 a30, .slice A30 ks30.length cap30] rfl rfl (newsRow (hs36.bx.rw _ M0).2) (by intro u hu; simp only [List.mem_cons, List.not_mem_nil, or_false] at hu; rcases hu with rfl | rfl | rfl | rfl | rfl <;> rfl) (by decide) (by unfold maxLen; omega) (by omega) hs36.bx.size _ rfl ?_
   intro b37 capb37 w37 ho37 hg37 hb37 hbl37
   obtain ⟨he37, ef37, n437, nf37, hne37, hbox37, hlen37⟩ := hs36.newElem (by simp) ho37 hg37 hb37
   obtain ⟨e37_0, e37_1, e37_2, e37_3, e37_4⟩ := he37
   have hnx37 : ((w5.heap.size + 1) = b37) = False := by simpa using fun e => hne37 e.symm
   have hny37 : (b37 = (w5.heap.size + 1)) = False := by simpa using hne37
   have HSF37 := Lib.hid (And.intro hs36 (And.intro ho37 (And.intro hg37 (And.intro hb37 (And.intro hbox37 hlen37)))))
   clear hs36 ho37 hg37 hb37
   have hA37 := AppTo.whole (lo := W.heap.size) HSF37.out.2.1 HSF37.out.2.2.2.2.1 (fun e => hne37 e.symm)
   have hs38 := (HSF37.out.1.appendedN (m := (1 + 1)) (N := 1) (zs := [.int .i64 49, .string t30, .int .i64 n30, .int .i64 a30, .slice A30 ks30.length cap30]) (by simp) rfl HSF37.out.2.1 HSF37.out.2.2.1 HSF37.out.2.2.2.1 (ys := [(.mk 49 t30 n30 a30 ks30, .agg #[.int .i64 49, .string t30, .int .i64 n30, .int .i64 a30, .slice A30 ks30.length cap30])]) (memC M0 (mem0 _)) hA37 rfl); try simp only at hs38
   have a39 := J3 (F5 hs38 M0) (F5 hs38 M1) (F5 hs38 M2)
   have gg39 := hs38.gcells
   have HS38 := Lib.hid hs38
   clear hs38)
  have hs40 := (HS38.swap3.set5 (.int .i64 21) (.string ⟨#[]⟩) (.int .i64 0) (.int .i64 (E.tok s.i).at_) (.slice (some ⟨b37, 0, none⟩) ((1 + 1) + 1) capb37)).grown
  refine St.fin (slot := 2) rfl hs40 rfl (hs40.bx.tr _ M0) ?_
  exact HSP35.out
 | false =>
 have HSP35 := HSP34; try simp only [h49, sm, reduceIte] at HSP35
 have h49n : (k30 != 49) = true := by simp only [bne, h49, Bool.not_false]
 go_wp2_with fail
 go_at_call 44
 refine (fail_any hE HS31.rd).mono ?_
 rintro e wz ⟨rfl, hbz⟩
 exact ⟨rfl, bad_end (HSP35.out).symm (HS31.below hbz).fp⟩

end
end Go.Proofs.YtokhfhibdeneeaaGreatDoor
