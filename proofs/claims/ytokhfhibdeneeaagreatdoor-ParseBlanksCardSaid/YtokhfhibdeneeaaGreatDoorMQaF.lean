/- decl. Program$1. Program, Expr, Statements: what they hand back for any text. reads, told. The chapter's first examples, read by the plain functions. known: the chapter's first examples are so. -/
import Derived.Deep.LoopGhost
import Derived.BigQuiet
import Derived.Test.YtokhfhibdeneeaaGreatDoorMQaA
import Derived.Test.YtokhfhibdeneeaaGreatDoorMLiesP
import Derived.Test.YtokhfhibdeneeaaGreatDoorMQaD
import Derived.Test.YtokhfhibdeneeaaGreatDoorQaE
import Derived.Test.YtokhfhibdeneeaaGreatDoorMScI
namespace Go.Proofs.YtokhfhibdeneeaaGreatDoor
open Go.RowKit
section
variable {E : Env} {M : Rm} {w0 W w1 W' : World} {rows : List Rw} {gs : Option Gv} {ts : List (Nd × Value)} {st s s' : Rs} {K : Kn} {g : Gv}
theorem VLs.form {w w' : World} {l : List Nd} {v : Value} (h : VLs w w' l v) : ∃ A cap, v = .slice A l.length cap := by
 obtain ⟨A, cap, e⟩ := VNd.form h
 simp only [Value.agg.injEq] at e
 exact ⟨A, cap, (show _ ∧ _ by simpa using e).2⟩
set_option maxRecDepth 100000 in
theorem part_wish (hE : EnvOk E M) (hD : DigOk E) : PartOk E M (wishR E) 92 #[.pointer (some ⟨M.bp, 0, none⟩)] (fun _ => True) :=
 ⟨fun _W => rfl, fun _s _W h _ _ => wish_rd hE hD h, fun _ _ _ _ => trivial⟩

set_option maxRecDepth 100000 in
set_option maxHeartbeats 4000000 in
theorem decl_rd (hE : EnvOk E M) (hK : KOK E M K) (hD : DigOk E) (h : RdAt E M s W) (hne : declR E K s ≠ .out) :
 Calls Tryz.prog 43 #[.pointer (some ⟨M.bp, 0, none⟩)] W (Post E M VNd W (declR E K s)) := by
 obtain ⟨R, HR⟩ : ∃ R, Hid (declR E K s = R) := ⟨_, rfl⟩
 have hneR : R ≠ .out := by rw [← HR.out]; exact hne
 clear hne
 rw [HR.out]
 have HNE := Lib.hid hneR
 have HSP0 := HR
 unfold declR at HSP0
 have HS1 := Lib.hid ((St.init h).pz)
 try simp only [World.size_alloc] at HS1
 have a1R := F5 HS1 M0
 have hfi0 := fieldTok0
 have hfi1 := fieldTok1
 have hfi2 := fieldTok2
 have hfn0 := fieldNd0
 have hfn1 := fieldNd1
 have hn0 := hE.n
 clear hneR h
 have hmf : ∀ (fn : Fn) (first cap : Array Value) (w : World), (Instr.makeFunc fn first cap).run Tryz.prog w = .ok (.func fn first cap) w := fun _ _ _ _ => rfl
 go_enter Tryz.func43, Tryz.ntmps43
 go_wp2_with fail
 go_at_call 42
 refine (at0_rd hE HS1.rd).mono ?_
 rintro e w2 ⟨rfl, hb2⟩
 clear a1R
 have HS3 := Lib.hid (HS1.below hb2); try simp only [sz] at HS3
 have a4R := F5 HS3 M0
 clear hb2
 cases h1 : isT E s [116, 121, 112, 101] with
 | true =>
  have HSP5 := HSP0; try simp only [h1, reduceIte] at HSP5
  have htk5 : takeS E [116, 121, 112, 101] s = adv s 1 := by rw [takeS, h1]; rfl
  go_wp2_with fail
  go_at_call 86
  refine (take_any hE HS3.rd ⟨#[116, 121, 112, 101]⟩ [116, 121, 112, 101] rfl).mono ?_
  rw [h1]
  rw [htk5]
  rintro e w6 ⟨rfl, hr6, hf6⟩
  clear a4R
  have HS7 := Lib.hid (HS3.go hr6 hf6); try simp only [sz] at HS7
  have a8R := F5 HS7 M0
  clear hr6 hf6
  go_wp2_with fail
  go_at_call 87
  refine Post.use HSP5.out HNE.out (fun h0 => name_nm hE HS7.rd) (be HS7.fp) ?_
  intro x9 s9 v9 w9 hsp9 hv9 hr9 hf9
  obtain ⟨t9, a9, rfl, rfl, ha9, ht9⟩ := hv9
  clear a8R
  have HS10 := Lib.hid (((HS7.go hr9 hf9).tree (t := .mk 14 t9 0 a9 []) (v := .agg #[.int .i64 14, .string t9, .int .i64 0, .int .i64 a9, .slice none 0 0]) (LiesP.leaf ok_lit ok_lit ha9 ht9)).pn 14 t9 0 a9 (.slice none 0 0)); try simp only [sz] at HS10
  have a11N := F5 HS10 M0
  have a11R := F5 HS10 M1
  have HSP9 := Lib.hid hsp9
  clear hsp9 hr9 hf9
  cases h2 : isT E s9 [115, 116, 114, 117, 99, 116] with
  | true =>
   have HSP12 := HSP9; try simp only [h2, reduceIte] at HSP12
   have htk12 : takeS E [115, 116, 114, 117, 99, 116] s9 = adv s9 1 := by rw [takeS, h2]; rfl
   go_wp2_with fail
   go_at_call 86
   refine (take_any hE HS10.rd ⟨#[115, 116, 114, 117, 99, 116]⟩ [115, 116, 114, 117, 99, 116] rfl).mono ?_
   rw [h2]
   rw [htk12]
   rintro e w13 ⟨rfl, hr13, hf13⟩
   clear a11N a11R
   have HS14 := Lib.hid (HS10.go hr13 hf13); try simp only [sz] at HS14
   have a15 := J2 (F5 HS14 M0) (F5 HS14 M1)
   clear hr13 hf13
   go_wp2_with fail
   clear a15
   have hs16 := HS14.drew
   refine wp_region_G [] (fun Wx => Wx.cell? ⟨w9.heap.size, 1, none⟩ = some (.string t9)) (by rfl) ?_ (fun hHeld => ?_)
   · exact hs16.a M0 1
   revert hs16 hHeld
   generalize World.drew _ = wd16
   intro hs16 hHeld
   refine tk 0 (h := tk 1 (h := tk 2 (h := tk 3 (h := tk 4 (h := tk 5 (h := ?_))))))
   try simp only [nm]
   refine rd1 6 fun KK hKK => ?_
   go_simp
   go_at_call 88
   refine Post.use HSP12.out HNE.out (fun h0 => items_rd hE hK.fuel (part_field hE) trivial hs16.rd h0) (be hs16.fp) ?_
   intro x17 s17 v17 w17 hsp17 hv17 hr17 hf17
   obtain ⟨A17, cap17, rfl⟩ := VLs.form hv17
   have HSP17 := Lib.hid hsp17
   clear hsp17
   have hs18 := (hs16.read hr17 hf17 hv17); try simp only [sz] at hs18
   clear hs16 hHeld
   refine hKK.out _ _ (hs18.a M0 1) (fun hHeld => ?_)
   clear hKK KK
   refine tk 7 (h := ?_)
   try simp only [nm]
   refine rd1 8 fun KK hKK => ?_
   have a19R := F5 hs18 M1
   go_simp
   clear a19R
   have hs20 := (hs18.swap.set5 (.int .i64 3) (.string t9) (.int .i64 0) (.int .i64 (E.tok s.i).at_) (.slice A17 x17.length cap17)); try simp only [sz] at hs20
   clear hs18
   revert hs20
   generalize World.setCell _ _ _ = wq21
   intro hs20
   clear hHeld
   refine hKK.out _ _ (hs20.a M1 1) (fun hHeld => ?_)
   clear hKK KK
   try simp only [nm]
   refine wpAnyG_done (by kernel_rfl) ?_ _
   have HS22 := Lib.hid hs20; try simp only [sz] at HS22
   clear hs20
   go_wp2_with fail
   have hs23 := HS22.out
   refine St.fin (slot := 2) rfl hs23 rfl ((hs23.bx.tr _ M0).head ok_lit ok_lit (hE.at_ _) ht9) ?_
   exact HSP17.out
  | false =>
  have HSP12 := HSP9; try simp only [h2, sm, reduceIte] at HSP12
  have htk12 : takeS E [115, 116, 114, 117, 99, 116] s9 = s9 := by rw [takeS, h2]; rfl
  go_wp2_with fail
  go_at_call 86
  refine (take_any hE HS10.rd ⟨#[115, 116, 114, 117, 99, 116]⟩ [115, 116, 114, 117, 99, 116] rfl).mono ?_
  rw [h2]
  rw [htk12]
  rintro e w13 ⟨rfl, hr13, hf13⟩
  clear a11N a11R
  have HS14 := Lib.hid (HS10.go hr13 hf13); try simp only [sz] at HS14
  have a15 := J2 (F5 HS14 M0) (F5 HS14 M1)
  clear hr13 hf13
  go_wp2_with fail
  go_at_call 90
  refine Post.use HSP12.out HNE.out (fun _ => want_any hE HS14.rd ⟨#[61]⟩ [61] rfl) (be HS14.fp) ?_
  intro x16 s16 v16 w16 hsp16 hv16 hr16 hf16
  obtain rfl : v16 = _ := hv16
  clear a15
  have HS17 := Lib.hid (HS14.go hr16 hf16); try simp only [sz] at HS17
  have a18 := J2 (F5 HS17 M0) (F5 HS17 M1)
  have HSP16 := Lib.hid hsp16
  clear hsp16 hr16 hf16
  go_wp2_with fail
  clear a18
  have hs19 := HS17.drew
  refine wp_region_G [] (fun Wx => Wx.cell? ⟨w9.heap.size, 1, none⟩ = some (.string t9)) (by rfl) ?_ (fun hHeld => ?_)
  · exact hs19.a M0 1
  revert hs19 hHeld
  generalize World.drew _ = wd19
  intro hs19 hHeld
  refine tk 0 (h := tk 1 (h := tk 2 (h := tk 3 (h := ?_))))
  try simp only [nm]
  refine rd1 4 fun KK hKK => ?_
  go_simp
  have hs20 := (hs19.push #[.string ⟨#[109, 97, 112]⟩, .string ⟨#[102, 117, 110, 99]⟩] 9); try simp only [sz] at hs20
  clear hs19
  revert hs20
  generalize World.alloc _ _ = wq21
  intro hs20
  clear hHeld
  refine hKK.out _ _ (hs20.a M1 1) (fun hHeld => ?_)
  clear hKK KK
  try simp only [nm]
  refine rd1 5 fun KK hKK => ?_
  go_simp
  go_at_call 91
  refine Post.nd HSP16 HNE (fun h0 => kind_rd hE hs20.rd (hs20.words M0 [[109, 97, 112], [102, 117, 110, 99]] rfl rfl (by decide) (by decide) (by decide))) (be hs20.fp) ?_
  intro k22 t22 n22 a22 ks22 s22 A22 cap22 w22 HSP22 hv22 hr22 hf22
  have hs23 := (hs20.read hr22 hf22 hv22); try simp only [sz] at hs23
  clear hs20 hHeld
  refine hKK.out _ _ (hs23.a M1 1) (fun hHeld => ?_)
  clear hKK KK
  try simp only [nm]
  refine rd1 6 fun KK hKK => ?_
  go_simp
  have hs24 := (hs23.pn k22 t22 n22 a22 (.slice A22 ks22.length cap22)); try simp only [sz] at hs24
  clear hs23
  revert hs24
  generalize World.alloc _ _ = wq25
  intro hs24
  clear hHeld
  refine hKK.out _ _ (hs24.a M2 1) (fun hHeld => ?_)
  clear hKK KK
  refine tk 7 (h := ?_)
  try simp only [nm]
  refine rd1 8 fun KK hKK => ?_
  have a26R := F5 hs24 M3
  go_simp
  clear a26R
  have hs27 := (hs24.swap4.set5 (.int .i64 2) (.string t9) (.int .i64 0) (.int .i64 (E.tok s.i).at_) (.slice (some ⟨w22.heap.size, 0, none⟩) 1 1)); try simp only [sz] at hs27
  clear hs24
  revert hs27
  generalize World.setCell _ _ _ = wq28
  intro hs27
  clear hHeld
  refine hKK.out _ _ (hs27.a M3 1) (fun hHeld => ?_)
  clear hKK KK
  try simp only [nm]
  refine wpAnyG_done (by kernel_rfl) ?_ _
  have HS29 := Lib.hid hs27; try simp only [sz] at HS29
  clear hs27
  go_wp2_with fail
  have hs31 := (HS29.swap.node [(.mk k22 t22 n22 a22 ks22, .agg #[.int .i64 k22, .string t22, .int .i64 n22, .int .i64 a22, .slice A22 ks22.length cap22])] rfl (memC M0 (mem0 _)) (k := 2) (sx := t9) (n := 0) (a := (E.tok s.i).at_) ok_lit ok_lit (hE.at_ _) ht9 (l := 1) rfl (by decide))
  refine St.fin (slot := 2) rfl hs31 rfl (hs31.bx.tr _ M0) ?_
  exact HSP22.out
 | false =>
 have HSP5 := HSP0; try simp only [h1, sm, reduceIte] at HSP5
 cases h3 : isT E s [112, 114, 111, 116, 111, 99, 111, 108] with
 | true =>
  have HSP6 := HSP5; try simp only [h3, reduceIte] at HSP6
  have htk6 : takeS E [116, 121, 112, 101] s = s := by rw [takeS, h1]; rfl
  go_wp2_with fail
  go_at_call 86
  refine (take_any hE HS3.rd ⟨#[116, 121, 112, 101]⟩ [116, 121, 112, 101] rfl).mono ?_
  rw [h1]
  rw [htk6]
  rintro e w7 ⟨rfl, hr7, hf7⟩
  clear a4R
  have HS8 := Lib.hid (HS3.go hr7 hf7); try simp only [sz] at HS8
  have a9R := F5 HS8 M0
  clear hr7 hf7
  have htk9 : takeS E [112, 114, 111, 116, 111, 99, 111, 108] s = adv s 1 := by rw [takeS, h3]; rfl
  go_wp2_with fail
  go_at_call 86
  refine (take_any hE HS8.rd ⟨#[112, 114, 111, 116, 111, 99, 111, 108]⟩ [112, 114, 111, 116, 111, 99, 111, 108] rfl).mono ?_
  rw [h3]
  rw [htk9]
  rintro e w10 ⟨rfl, hr10, hf10⟩
  clear a9R
  have HS11 := Lib.hid (HS8.go hr10 hf10); try simp only [sz] at HS11
  have a12R := F5 HS11 M0
  clear hr10 hf10
  go_wp2_with fail
  go_at_call 87
  refine Post.use HSP6.out HNE.out (fun h0 => name_nm hE HS11.rd) (be HS11.fp) ?_
  intro x13 s13 v13 w13 hsp13 hv13 hr13 hf13
  obtain ⟨t13, a13, rfl, rfl, ha13, ht13⟩ := hv13
  clear a12R
  have HS14 := Lib.hid (((HS11.go hr13 hf13).tree (t := .mk 14 t13 0 a13 []) (v := .agg #[.int .i64 14, .string t13, .int .i64 0, .int .i64 a13, .slice none 0 0]) (LiesP.leaf ok_lit ok_lit ha13 ht13)).pn 14 t13 0 a13 (.slice none 0 0)); try simp only [sz] at HS14
  have a15 := J2 (F5 HS14 M0) (F5 HS14 M1)
  have HSP13 := Lib.hid hsp13
  clear hsp13 hr13 hf13
  go_wp2_with fail
  clear a15
  have hs16 := HS14.drew
  refine wp_region_G [] (fun Wx => Wx.cell? ⟨w13.heap.size, 1, none⟩ = some (.string t13)) (by rfl) ?_ (fun hHeld => ?_)
  · exact hs16.a M0 1
  revert hs16 hHeld
  generalize World.drew _ = wd16
  intro hs16 hHeld
  refine tk 0 (h := tk 1 (h := tk 2 (h := tk 3 (h := tk 4 (h := tk 5 (h := ?_))))))
  try simp only [nm]
  refine rd1 6 fun KK hKK => ?_
  go_simp
  go_at_call 88
  refine Post.use HSP13.out HNE.out (fun h0 => items_rd hE hK.fuel (part_wish hE hD) trivial hs16.rd h0) (be hs16.fp) ?_
  intro x17 s17 v17 w17 hsp17 hv17 hr17 hf17
  obtain ⟨A17, cap17, rfl⟩ := VLs.form hv17
  have HSP17 := Lib.hid hsp17
  clear hsp17
  have hs18 := (hs16.read hr17 hf17 hv17); try simp only [sz] at hs18
  clear hs16 hHeld
  refine hKK.out _ _ (hs18.a M0 1) (fun hHeld => ?_)
  clear hKK KK
  refine tk 7 (h := ?_)
  try simp only [nm]
  refine rd1 8 fun KK hKK => ?_
  have a19R := F5 hs18 M1
  go_simp
  clear a19R
  have hs20 := (hs18.swap.set5 (.int .i64 4) (.string t13) (.int .i64 0) (.int .i64 (E.tok s.i).at_) (.slice A17 x17.length cap17)); try simp only [sz] at hs20
  clear hs18
  revert hs20
  generalize World.setCell _ _ _ = wq21
  intro hs20
  clear hHeld
  refine hKK.out _ _ (hs20.a M1 1) (fun hHeld => ?_)
  clear hKK KK
  try simp only [nm]
  refine wpAnyG_done (by kernel_rfl) ?_ _
  have HS22 := Lib.hid hs20; try simp only [sz] at HS22
  clear hs20
  go_wp2_with fail
  have hs23 := HS22.out
  refine St.fin (slot := 2) rfl hs23 rfl ((hs23.bx.tr _ M0).head ok_lit ok_lit (hE.at_ _) ht13) ?_
  exact HSP17.out
 | false =>
 have HSP6 := HSP5; try simp only [h3, sm, reduceIte] at HSP6
 cases h4 : isT E s [102, 117, 110, 99] with
 | true =>
  have HSP7 := HSP6; try simp only [h4, reduceIte] at HSP7
  have htk7 : takeS E [116, 121, 112, 101] s = s := by rw [takeS, h1]; rfl
  go_wp2_with fail
  go_at_call 86
  refine (take_any hE HS3.rd ⟨#[116, 121, 112, 101]⟩ [116, 121, 112, 101] rfl).mono ?_
  rw [h1]
  rw [htk7]
  rintro e w8 ⟨rfl, hr8, hf8⟩
  clear a4R
  have HS9 := Lib.hid (HS3.go hr8 hf8); try simp only [sz] at HS9
  have a10R := F5 HS9 M0
  clear hr8 hf8
  have htk10 : takeS E [112, 114, 111, 116, 111, 99, 111, 108] s = s := by rw [takeS, h3]; rfl
  go_wp2_with fail
  go_at_call 86
  refine (take_any hE HS9.rd ⟨#[112, 114, 111, 116, 111, 99, 111, 108]⟩ [112, 114, 111, 116, 111, 99, 111, 108] rfl).mono ?_
  rw [h3]
  rw [htk10]
  rintro e w11 ⟨rfl, hr11, hf11⟩
  clear a10R
  have HS12 := Lib.hid (HS9.go hr11 hf11); try simp only [sz] at HS12
  have a13R := F5 HS12 M0
  clear hr11 hf11
  have htk13 : takeS E [102, 117, 110, 99] s = adv s 1 := by rw [takeS, h4]; rfl
  go_wp2_with fail
  go_at_call 86
  refine (take_any hE HS12.rd ⟨#[102, 117, 110, 99]⟩ [102, 117, 110, 99] rfl).mono ?_
  rw [h4]
  rw [htk13]
  rintro e w14 ⟨rfl, hr14, hf14⟩
  clear a13R
  have HS15 := Lib.hid (HS12.go hr14 hf14); try simp only [sz] at HS15
  have a16R := F5 HS15 M0
  clear hr14 hf14
  go_wp2_with fail
  go_at_call 93
  refine Post.use (bind_okR HSP7.out) HNE.out (fun h0 => function_rd hE hK HS15.rd (hE.at_ _) h0) (be HS15.fp) ?_
  intro x17 s17 v17 w17 hsp17 hv17 hr17 hf17
  obtain ⟨k17, t17, n17, a17, ks17⟩ := x17
  obtain ⟨A17, cap17, rfl⟩ := VNd.form hv17
  clear a16R
  have HS18 := Lib.hid (HS15.read hr17 hf17 hv17); try simp only [sz] at HS18
  have a19R := F5 HS18 M0
  have HSP17 := Lib.hid hsp17
  clear hsp17 hr17 hf17
  go_wp2_with fail
  have hs20 := (HS18.set5 (.int .i64 k17) (.string t17) (.int .i64 n17) (.int .i64 a17) (.slice A17 ks17.length cap17))
  refine St.fin (slot := 2) rfl hs20 rfl (hs20.bx.tr _ M0) ?_
  exact HSP17.out
 | false =>
 have HSP7 := HSP6; try simp only [h4, sm, reduceIte] at HSP7
 cases h5 : isT E s [118, 97, 114] with
 | true =>
  have HSP8 := HSP7; try simp only [h5, reduceIte] at HSP8
  have htk8 : takeS E [116, 121, 112, 101] s = s := by rw [takeS, h1]; rfl
  go_wp2_with fail
  go_at_call 86
  refine (take_any hE HS3.rd ⟨#[116, 121, 112, 101]⟩ [116, 121, 112, 101] rfl).mono ?_
  rw [h1]
  rw [htk8]
  rintro e w9 ⟨rfl, hr9, hf9⟩
  clear a4R
  have HS10 := Lib.hid (HS3.go hr9 hf9); try simp only [sz] at HS10
  have a11R := F5 HS10 M0
  clear hr9 hf9
  have htk11 : takeS E [112, 114, 111, 116, 111, 99, 111, 108] s = s := by rw [takeS, h3]; rfl
  go_wp2_with fail
  go_at_call 86
  refine (take_any hE HS10.rd ⟨#[112, 114, 111, 116, 111, 99, 111, 108]⟩ [112, 114, 111, 116, 111, 99, 111, 108] rfl).mono ?_
  rw [h3]
  rw [htk11]
  rintro e w12 ⟨rfl, hr12, hf12⟩
  clear a11R
  have HS13 := Lib.hid (HS10.go hr12 hf12); try simp only [sz] at HS13
  have a14R := F5 HS13 M0
  clear hr12 hf12
  have htk14 : takeS E [102, 117, 110, 99] s = s := by rw [takeS, h4]; rfl
  go_wp2_with fail
  go_at_call 86
  refine (take_any hE HS13.rd ⟨#[102, 117, 110, 99]⟩ [102, 117, 110, 99] rfl).mono ?_
  rw [h4]
  rw [htk14]
  rintro e w15 ⟨rfl, hr15, hf15⟩
  clear a14R
  have HS16 := Lib.hid (HS13.go hr15 hf15); try simp only [sz] at HS16
  have a17R := F5 HS16 M0
  clear hr15 hf15
  have htk17 : takeS E [118, 97, 114] s = adv s 1 := by rw [takeS, h5]; rfl
  go_wp2_with fail
  go_at_call 86
  refine (take_any hE HS16.rd ⟨#[118, 97, 114]⟩ [118, 97, 114] rfl).mono ?_
  rw [h5]
  rw [htk17]
  rintro e w18 ⟨rfl, hr18, hf18⟩
  clear a17R
  have HS19 := Lib.hid (HS16.go hr18 hf18); try simp only [sz] at HS19
  have a20R := F5 HS19 M0
  clear hr18 hf18
  go_wp2_with fail
  go_at_call 87
  refine Post.use HSP8.out HNE.out (fun h0 => name_nm hE HS19.rd) (be HS19.fp) ?_
  intro x21 s21 v21 w21 hsp21 hv21 hr21 hf21
  obtain ⟨t21, a21, rfl, rfl, ha21, ht21⟩ := hv21
  clear a20R
  have HS22 := Lib.hid (((HS19.go hr21 hf21).tree (t := .mk 14 t21 0 a21 []) (v := .agg #[.int .i64 14, .string t21, .int .i64 0, .int .i64 a21, .slice none 0 0]) (LiesP.leaf ok_lit ok_lit ha21 ht21)).pn 14 t21 0 a21 (.slice none 0 0)); try simp only [sz] at HS22
  have a23 := J2 (F5 HS22 M0) (F5 HS22 M1)
  have HSP21 := Lib.hid hsp21
  clear hsp21 hr21 hf21
  go_wp2_with fail
  go_at_call 90
  refine Post.use HSP21.out HNE.out (fun _ => want_any hE HS22.rd ⟨#[61]⟩ [61] rfl) (be HS22.fp) ?_
  intro x24 s24 v24 w24 hsp24 hv24 hr24 hf24
  obtain rfl : v24 = _ := hv24
  clear a23
  have HS25 := Lib.hid (HS22.go hr24 hf24); try simp only [sz] at HS25
  have a26 := J2 (F5 HS25 M0) (F5 HS25 M1)
  have HSP24 := Lib.hid hsp24
  clear hsp24 hr24 hf24
  go_wp2_with fail
  clear a26
  have hs27 := HS25.drew
  refine wp_region_G [] (fun Wx => Wx.cell? ⟨w21.heap.size, 1, none⟩ = some (.string t21)) (by rfl) ?_ (fun hHeld => ?_)
  · exact hs27.a M0 1
  revert hs27 hHeld
  generalize World.drew _ = wd27
  intro hs27 hHeld
  refine tk 0 (h := tk 1 (h := tk 2 (h := tk 3 (h := ?_))))
  try simp only [nm]
  refine rd1 4 fun KK hKK => ?_
  go_simp
  go_at_call 37
  refine Post.nd HSP24 HNE (fun h0 => hK.expr _ _ hs27.rd h0) (be hs27.fp) ?_
  intro k28 t28 n28 a28 ks28 s28 A28 cap28 w28 HSP28 hv28 hr28 hf28
  have hs29 := (hs27.read hr28 hf28 hv28); try simp only [sz] at hs29
  clear hs27 hHeld
  refine hKK.out _ _ (hs29.a M0 1) (fun hHeld => ?_)
  clear hKK KK
  try simp only [nm]
  refine rd1 5 fun KK hKK => ?_
  go_simp
  have hs30 := (hs29.pn k28 t28 n28 a28 (.slice A28 ks28.length cap28)); try simp only [sz] at hs30
  clear hs29
  revert hs30
  generalize World.alloc _ _ = wq31
  intro hs30
  clear hHeld
  refine hKK.out _ _ (hs30.a M1 1) (fun hHeld => ?_)
  clear hKK KK
  refine tk 6 (h := ?_)
  try simp only [nm]
  refine rd1 7 fun KK hKK => ?_
  have a32R := F5 hs30 M2
  go_simp
  clear a32R
  have hs33 := (hs30.swap3.set5 (.int .i64 7) (.string t21) (.int .i64 0) (.int .i64 (E.tok s.i).at_) (.slice (some ⟨w28.heap.size, 0, none⟩) 1 1)); try simp only [sz] at hs33
  clear hs30
  revert hs33
  generalize World.setCell _ _ _ = wq34
  intro hs33
  clear hHeld
  refine hKK.out _ _ (hs33.a M2 1) (fun hHeld => ?_)
  clear hKK KK
  try simp only [nm]
  refine wpAnyG_done (by kernel_rfl) ?_ _
  have HS35 := Lib.hid hs33; try simp only [sz] at HS35
  clear hs33
  go_wp2_with fail
  have hs37 := (HS35.swap.node [(.mk k28 t28 n28 a28 ks28, .agg #[.int .i64 k28, .string t28, .int .i64 n28, .int .i64 a28, .slice A28 ks28.length cap28])] rfl (memC M0 (mem0 _)) (k := 7) (sx := t21) (n := 0) (a := (E.tok s.i).at_) ok_lit ok_lit (hE.at_ _) ht21 (l := 1) rfl (by decide))
  refine St.fin (slot := 2) rfl hs37 rfl (hs37.bx.tr _ M0) ?_
  exact HSP28.out
 | false =>
 have HSP8 := HSP7; try simp only [h5, sm, reduceIte] at HSP8
 have htk8 : takeS E [116, 121, 112, 101] s = s := by rw [takeS, h1]; rfl
 go_wp2_with fail
 go_at_call 86
 refine (take_any hE HS3.rd ⟨#[116, 121, 112, 101]⟩ [116, 121, 112, 101] rfl).mono ?_
 rw [h1]
 rw [htk8]
 rintro e w9 ⟨rfl, hr9, hf9⟩
 clear a4R
 have HS10 := Lib.hid (HS3.go hr9 hf9); try simp only [sz] at HS10
 have a11R := F5 HS10 M0
 clear hr9 hf9
 have htk11 : takeS E [112, 114, 111, 116, 111, 99, 111, 108] s = s := by rw [takeS, h3]; rfl
 go_wp2_with fail
 go_at_call 86
 refine (take_any hE HS10.rd ⟨#[112, 114, 111, 116, 111, 99, 111, 108]⟩ [112, 114, 111, 116, 111, 99, 111, 108] rfl).mono ?_
 rw [h3]
 rw [htk11]
 rintro e w12 ⟨rfl, hr12, hf12⟩
 clear a11R
 have HS13 := Lib.hid (HS10.go hr12 hf12); try simp only [sz] at HS13
 have a14R := F5 HS13 M0
 clear hr12 hf12
 have htk14 : takeS E [102, 117, 110, 99] s = s := by rw [takeS, h4]; rfl
 go_wp2_with fail
 go_at_call 86
 refine (take_any hE HS13.rd ⟨#[102, 117, 110, 99]⟩ [102, 117, 110, 99] rfl).mono ?_
 rw [h4]
 rw [htk14]
 rintro e w15 ⟨rfl, hr15, hf15⟩
 clear a14R
 have HS16 := Lib.hid (HS13.go hr15 hf15); try simp only [sz] at HS16
 have a17R := F5 HS16 M0
 clear hr15 hf15
 have htk17 : takeS E [118, 97, 114] s = s := by rw [takeS, h5]; rfl
 go_wp2_with fail
 go_at_call 86
 refine (take_any hE HS16.rd ⟨#[118, 97, 114]⟩ [118, 97, 114] rfl).mono ?_
 rw [h5]
 rw [htk17]
 rintro e w18 ⟨rfl, hr18, hf18⟩
 clear a17R
 have HS19 := Lib.hid (HS16.go hr18 hf18); try simp only [sz] at HS19
 have a20R := F5 HS19 M0
 clear hr18 hf18
 go_wp2_with fail
 go_at_call 44
 refine (fail_any hE HS19.rd).mono ?_
 rintro e wz ⟨rfl, hbz⟩
 exact ⟨rfl, bad_end (HSP8.out).symm (HS19.below hbz).fp⟩

end
end Go.Proofs.YtokhfhibdeneeaaGreatDoor

namespace Go.Proofs.YtokhfhibdeneeaaGreatDoor
open Go.RowKit
section
variable {E : Env} {M : Rm} {w0 W w1 W' : World} {rows : List Rw} {gs : Option Gv} {ts : List (Nd × Value)} {st s s' : Rs} {K : Kn} {g : Gv}

set_option maxRecDepth 100000 in
set_option maxHeartbeats 4000000 in
theorem program_rd (hE : EnvOk E M) (hK : KOK E M K) (hD : DigOk E) (h : RdAt E M s W) (hne : programR E K s ≠ .out) :
 Calls Tryz.prog 41 #[.pointer (some ⟨M.bp, 0, none⟩)] W (Post E M VNd W (programR E K s)) := by
 obtain ⟨R, HR⟩ : ∃ R, Hid (programR E K s = R) := ⟨_, rfl⟩
 have hneR : R ≠ .out := by rw [← HR.out]; exact hne
 clear hne
 rw [HR.out]
 have HNE := Lib.hid hneR
 have HSP0 := HR
 unfold programR at HSP0
 obtain ⟨i0, hi0, hz0, hz1, hz2⟩ := info_parts infoNd
 have hfu := hK.fuel
 have HS1 := Lib.hid ((St.init h).pz)
 try simp only [World.size_alloc] at HS1
 have a1R := F5 HS1 M0
 have hfi0 := fieldTok0
 have hfi1 := fieldTok1
 have hfi2 := fieldTok2
 have hfn0 := fieldNd0
 have hfn1 := fieldNd1
 have hn0 := hE.n
 clear hneR h
 go_enter Tryz.func41, Tryz.ntmps41
 go_wp2_with fail
 go_at_call 42
 refine (at0_rd hE HS1.rd).mono ?_
 rintro e w2 ⟨rfl, hb2⟩
 clear a1R
 have HS3 := Lib.hid ((HS1.below hb2).push #[.int .i64 1, .string ⟨#[]⟩, .int .i64 0, .int .i64 (E.tok s.i).at_, .slice none 0 0] 25); try simp only [sz] at HS3
 have a4 := J2 (F5 HS3 M0) (F5 HS3 M1)
 clear hb2
 go_wp2_with fail
 go_at_call 38
 refine (ends_rd hE HS3.rd).mono ?_
 rintro e w5 ⟨rfl, hr5, hf5⟩
 clear a4
 have HS6 := Lib.hid (HS3.go hr5 hf5); try simp only [sz] at HS6
 have a7 := J2 (F5 HS6 M0) (F5 HS6 M1)
 clear hr5 hf5 a7
 go_wp2_with fail
 go_loopg [] K.fuel (fun f wr => ∃ (s2 : Rs) (A2 : Option Addr) (cap2 : Nat) (xs : List (Nd × Value)), xs.length + f ≤ K.fuel ∧ Hid (St E M W [(W.heap.size, #[.int .i64 0, .string ⟨#[]⟩, .int .i64 0, .int .i64 0, .slice none 0 0], 25)] (some ⟨w2.heap.size, 1, ⟨#[]⟩, 0, (E.tok s.i).at_, .slice A2 xs.length cap2, xs⟩) [] s2 wr) ∧ Hid (declsL E K f (.mk 1 (bs []) 0 (E.tok s.i).at_ (xs.map (fun x : Nd × Value => x.1))) s2 = R))
 case atStart => exact ⟨_, none, 0, [], by simp, Lib.hid (St.grow0 HS6.swap.swap ok_lit ok_lit (hE.at_ _) (by decide)), HSP0.out⟩
 case round =>
  obtain ⟨s2, A2, cap2, xs, hxf, HL2, HSL2⟩ := hrel
  cases gk with
  | zero => exact absurd HSL2.symm HNE.out
  | succ g =>
  have hspu := HSL2.out
  rw [declsL] at hspu
  have HSU := Lib.hid hspu
  clear hspu
  have a8R := F5 HL2 M0
  have gg8 := HL2.gcells
  by_cases hst : E.n ≤ s2.i
  ·
   have hd0 : decide ((s2.i : Int) < (E.n : Int)) = false := decide_eq_false (by omega)
   have HSU2 := Lib.hid ((if_pos hst).symm.trans HSU.out)
   go_wp2_with fail
   clear a8R gg8
   have hs9 := HL2.drew
   refine wp_region_G [] (fun Wx => Wx.cell? ⟨M.bp, 1, none⟩ = some (.int .i64 (s2).i) ∧ Wx.cell? ⟨M.bp, 0, none⟩ = some (.slice M.A E.n M.cap)) (by rfl) ?_ (fun hHeld => ?_)
   · exact ⟨hs9.rd.c1, hs9.rd.c0⟩
   revert hs9 hHeld
   generalize World.drew _ = wd9
   intro hs9 hHeld
   refine tk 0 (h := tk 1 (h := tk 2 (h := tk 3 (h := ?_))))
   try simp only [nm]
   refine tk 4 (h := tk 5 (h := tk 6 (h := tk 7 (h := ?_))))
   try simp only [nm]
   refine tk 8 (h := tk 9 (h := ?_))
   try simp only [nm]
   refine wpAnyG_done (by kernel_rfl) ?_ _
   have HS10 := Lib.hid (hs9.ungrow); try simp only at HS10
   have a11N := F5 HS10 M0
   have a11R := F5 HS10 M1
   clear hs9
   go_wp2_with fail
   have hs12 := (HS10.swap.set5 (.int .i64 1) (.string ⟨#[]⟩) (.int .i64 0) (.int .i64 (E.tok s.i).at_) (.slice A2 xs.length cap2))
   refine St.fin (slot := 2) rfl hs12 rfl (hs12.bx.tr _ M0) ?_
   exact HSU2.out
  ·
   have hd0 : decide ((s2.i : Int) < (E.n : Int)) = true := decide_eq_true (by omega)
   have HSU2 := Lib.hid ((if_neg hst).symm.trans HSU.out)
   go_wp2_with fail
   clear a8R gg8
   have hs9 := HL2.drew
   refine wp_region_G [] (fun Wx => Wx.cell? ⟨M.bp, 1, none⟩ = some (.int .i64 (s2).i) ∧ Wx.cell? ⟨M.bp, 0, none⟩ = some (.slice M.A E.n M.cap)) (by rfl) ?_ (fun hHeld => ?_)
   · exact ⟨hs9.rd.c1, hs9.rd.c0⟩
   revert hs9 hHeld
   generalize World.drew _ = wd9
   intro hs9 hHeld
   refine tk 0 (h := tk 1 (h := tk 2 (h := tk 3 (h := ?_))))
   try simp only [nm]
   refine tk 4 (h := tk 5 (h := tk 6 (h := tk 7 (h := ?_))))
   try simp only [nm]
   refine tk 8 (h := tk 9 (h := ?_))
   try simp only [nm]
   refine wpAnyG_done (by kernel_rfl) ?_ _
   have HS10 := Lib.hid hs9; try simp only [sz] at HS10
   have a11R := F5 HS10 M0
   have gg11 := HS10.gcells
   clear hs9
   go_wp2_with fail
   clear a11R gg11
   have hs12 := HS10.drew
   refine wp_region_G [7] (fun Wx => Wx.cell? ⟨w2.heap.size, 4, none⟩ = some (.slice A2 xs.length cap2)) (by rfl) ?_ (fun hHeld => ?_)
   · exact hs12.gcells.2.2.2.2.1
   revert hs12 hHeld
   generalize World.drew _ = wd12
   intro hs12 hHeld
   refine tk 0 (h := tk 1 (h := tk 2 (h := ?_)))
   try simp only [nm]
   refine rd1 3 fun KK hKK => ?_
   go_simp
   go_at_call 43
   refine Post.nd HSU2 HNE (fun h0 => decl_rd hE hK hD hs12.rd h0) (be hs12.fp) ?_
   intro k13 t13 n13 a13 ks13 s13 A13 cap13 w13 HSP13 hv13 hr13 hf13
   have hs14 := (hs12.read hr13 hf13 hv13); try simp only [sz] at hs14
   clear hs12 hHeld
   refine hKK.out _ _ (hs14.gcells.2.2.2.2.1) (fun hHeld => ?_)
   clear hKK KK
   try simp only [nm]
   refine rd1 4 fun KK hKK => ?_
   go_simp
   have hs15 := (hs14.pn k13 t13 n13 a13 (.slice A13 ks13.length cap13)); try simp only [sz] at hs15
   clear hs14
   revert hs15
   generalize World.alloc _ _ = wq16
   intro hs15
   clear hHeld
   refine hKK.out _ _ (hs15.gcells.2.2.2.2.1) (fun hHeld => ?_)
   clear hKK KK
   try simp only [nm]
   refine rd1 5 fun KK hKK => ?_
   refine apl 21 24 hs15 M0 xs.length (h := ?_)
   intro b17 capb17 w17 ho17 hg17 hb17 hbl17
   obtain ⟨he17, ef17, n417, nf17, hne17, hbox17, hlen17⟩ := hs15.newElem rfl ho17 hg17 hb17
   obtain ⟨e17_0, e17_1, e17_2, e17_3, e17_4⟩ := he17
   have hnx17 : (w2.heap.size = b17) = False := by simpa using fun e => hne17 e.symm
   have hny17 : (b17 = w2.heap.size) = False := by simpa using hne17
   have HSF17 := Lib.hid (And.intro hs15 (And.intro ho17 (And.intro hg17 (And.intro hb17 (And.intro hbox17 hlen17)))))
   clear hs15 ho17 hg17 hb17 hHeld
   refine hKK.out _ _ (n417) (fun hHeld => ?_)
   clear hKK KK
   try simp only [nm]
   refine tk 6 (h := ?_)
   try simp only [nm]
   refine rl1 7 fun KK hKK => ?_
   go_simp
   clear hHeld
   refine hKK.out _ _ ?_
   clear hKK KK
   try simp only [nm]
   refine wpAny_done (by kernel_rfl) ?_ _
   have hA17 := AppTo.whole (lo := W.heap.size) HSF17.out.2.1 HSF17.out.2.2.2.2.1 (fun e => hne17 e.symm)
   have HS18 := Lib.hid (HSF17.out.1.appendedN (m := xs.length) (N := 1) (zs := [.int .i64 k13, .string t13, .int .i64 n13, .int .i64 a13, .slice A13 ks13.length cap13]) rfl rfl HSF17.out.2.1 HSF17.out.2.2.1 HSF17.out.2.2.2.1 (ys := [(.mk k13 t13 n13 a13 ks13, .agg #[.int .i64 k13, .string t13, .int .i64 n13, .int .i64 a13, .slice A13 ks13.length cap13])]) (memC M0 (mem0 _)) hA17 rfl); try simp only at HS18
   have a19 := J2 (F5 HS18 M0) (F5 HS18 M1)
   have gg19 := HS18.gcells
   clear a19 gg19
   obtain ⟨be, hbe⟩ : ∃ b, decide (s13.i < (endsS E s13).i) = b := ⟨_, rfl⟩
   have HSP20 := HSP13; try simp only [hbe] at HSP20
   have HBE := Lib.hid hbe
   clear hbe
   cases be with
   | true =>
    have HSP21 := HSP20; try simp only [sm, reduceIte] at HSP21
    go_wp2_with fail
    have hs22 := HS18.drew
    refine wp_region_G [1] (fun Wx => True) (by rfl) ?_ (fun hHeld => ?_)
    · exact trivial
    revert hs22 hHeld
    generalize World.drew _ = wd22
    intro hs22 hHeld
    refine tk 0 (h := ?_)
    try simp only [nm]
    refine rl1 1 fun KK hKK => ?_
    go_simp
    go_at_call 38
    refine (ends_rd hE hs22.rd).mono ?_
    rw [HBE.out]
    rintro e w23 ⟨rfl, hr23, hf23⟩
    have hs24 := (hs22.go hr23 hf23); try simp only [sz] at hs24
    clear hs22
    have c25_0 := hs24.rd.c0
    have f25_0 := hs24.rd.fz 0
    have c25_1 := hs24.rd.c1
    have f25_1 := hs24.rd.fz 1
    clear hHeld
    refine hKK.out _ _ ?_
    clear hKK KK
    try simp only [nm]
    refine tq 2 (h := tq 3 (h := ?_))
    try simp only [nm]
    refine wpAny_take (i := 4) (v := undef) rfl (by kernel_rfl) (by kernel_rfl) (by kernel_rfl) (fun _ _ _ h => h) (Or.inr ⟨by rfl, rfl⟩) ?_
    try simp only [nm]
    refine wpAny_take (i := 5) (v := undef) rfl (by kernel_rfl) (by kernel_rfl) (by kernel_rfl) (fun _ _ _ h => h) (Or.inr ⟨by rfl, rfl⟩) ?_
    try simp only [nm]
    refine wpAny_take (i := 6) (v := undef) rfl (by kernel_rfl) (by kernel_rfl) (by kernel_rfl) (fun _ _ _ h => h) (Or.inr ⟨by rfl, rfl⟩) ?_
    try simp only [nm]
    refine wpAny_take (i := 7) (v := undef) rfl (by kernel_rfl) (by kernel_rfl) (by kernel_rfl) (fun _ _ _ h => h) (Or.inr ⟨by rfl, rfl⟩) ?_
    try simp only [nm]
    refine wpAny_take (i := 8) (v := undef) rfl (by kernel_rfl) (by kernel_rfl) (by kernel_rfl) (fun _ _ _ h => h) (Or.inr ⟨by rfl, rfl⟩) ?_
    try simp only [nm]
    refine wpAny_take (i := 9) (v := undef) rfl (by kernel_rfl) (by kernel_rfl) (by kernel_rfl) (fun _ _ _ h => h) (Or.inr ⟨by rfl, rfl⟩) ?_
    try simp only [nm]
    refine wpAny_take (i := 10) (v := undef) rfl (by kernel_rfl) (by kernel_rfl) (by kernel_rfl) (fun _ _ _ h => h) (Or.inr ⟨by rfl, rfl⟩) ?_
    try simp only [nm]
    refine wpAny_take (i := 11) (v := undef) rfl (by kernel_rfl) (by kernel_rfl) (by kernel_rfl) (fun _ _ _ h => h) (Or.inr ⟨by rfl, rfl⟩) ?_
    try simp only [nm]
    refine wpAny_take (i := 12) (v := undef) rfl (by kernel_rfl) (by kernel_rfl) (by kernel_rfl) (fun _ _ _ h => h) (Or.inr ⟨by rfl, rfl⟩) ?_
    try simp only [nm]
    refine wpAny_take (i := 13) (v := undef) rfl (by kernel_rfl) (by kernel_rfl) (by kernel_rfl) (fun _ _ _ h => h) (Or.inr ⟨by rfl, rfl⟩) ?_
    try simp only [nm]
    refine tq 14 (h := ?_)
    try simp only [nm]
    refine wpAny_done (by kernel_rfl) ?_ _
    clear c25_0 f25_0 c25_1 f25_1
    have HS26 := Lib.hid hs24; try simp only [sz] at HS26
    have a27 := J2 (F5 HS26 M0) (F5 HS26 M1)
    have gg27 := HS26.gcells
    clear hs24
    go_wp2_with fail
    go_roundg g
    case measure => omega
    case rel => exact ⟨_, _, _, xs ++ [(.mk k13 t13 n13 a13 ks13, .agg #[.int .i64 k13, .string t13, .int .i64 n13, .int .i64 a13, .slice A13 ks13.length cap13])], by simp; omega, Lib.hid (by simpa using HS26.retire.mono_ts (mem0 _)), Lib.hid (by simpa [Nd.push] using HSP21.out)⟩
   | false =>
   have HSP21 := HSP20; try simp only [sm] at HSP21
   by_cases hs2 : E.n ≤ (endsS E s13).i
   ·
    have hd1 : decide (((endsS E s13).i : Int) < (E.n : Int)) = false := decide_eq_false (by omega)
    have HSX := Lib.hid ((if_pos (decide_eq_true hs2)).symm.trans HSP21.out)
    go_wp2_with fail
    have hs22 := HS18.drew
    refine wp_region_G [1] (fun Wx => True) (by rfl) ?_ (fun hHeld => ?_)
    · exact trivial
    revert hs22 hHeld
    generalize World.drew _ = wd22
    intro hs22 hHeld
    refine tk 0 (h := ?_)
    try simp only [nm]
    refine rl1 1 fun KK hKK => ?_
    go_simp
    go_at_call 38
    refine (ends_rd hE hs22.rd).mono ?_
    rw [HBE.out]
    rintro e w23 ⟨rfl, hr23, hf23⟩
    have hs24 := (hs22.go hr23 hf23); try simp only [sz] at hs24
    clear hs22
    have c25_0 := hs24.rd.c0
    have f25_0 := hs24.rd.fz 0
    have c25_1 := hs24.rd.c1
    have f25_1 := hs24.rd.fz 1
    clear hHeld
    refine hKK.out _ _ ?_
    clear hKK KK
    try simp only [nm]
    refine tq 2 (h := tq 3 (h := tq 4 (h := tq 5 (h := ?_))))
    try simp only [nm]
    refine tq 6 (h := tq 8 (h := tq 9 (h := tq 10 (h := ?_))))
    try simp only [nm]
    refine wpAny_ready' (rs := [7, 11]) (by kernel_rfl) (by simp) ?_
    refine allReady_cons rfl (fun KK hKK => ?_) (allReady_cons rfl (fun KK hKK => ?_) allReady_nil)
    ·
     go_simp
     refine hKK.out _ _ ?_
     clear hKK KK
     try simp only [nm]
     refine rp1 11 fun KK hKK => ?_
     go_simp
     refine hKK.out _ _ ?_
     clear hKK KK
     try simp only [nm]
     refine tq 12 (h := tq 13 (h := tq 14 (h := ?_)))
     try simp only [nm]
     refine wpAny_done (by kernel_rfl) ?_ _
     clear c25_0 f25_0 c25_1 f25_1
     have HS26 := Lib.hid hs24; try simp only [sz] at HS26
     have a27 := J2 (F5 HS26 M0) (F5 HS26 M1)
     have gg27 := HS26.gcells
     clear hs24
     go_wp2_with fail
     go_roundg g
     case measure => omega
     case rel => exact ⟨_, _, _, xs ++ [(.mk k13 t13 n13 a13 ks13, .agg #[.int .i64 k13, .string t13, .int .i64 n13, .int .i64 a13, .slice A13 ks13.length cap13])], by simp; omega, Lib.hid (by simpa using HS26.retire.mono_ts (mem0 _)), Lib.hid (by simpa [Nd.push] using HSX.out)⟩
    ·
     go_simp
     refine hKK.out _ _ ?_
     clear hKK KK
     try simp only [nm]
     refine tq 12 (h := ?_)
     try simp only [nm]
     refine rp1 7 fun KK hKK => ?_
     go_simp
     refine hKK.out _ _ ?_
     clear hKK KK
     try simp only [nm]
     refine tq 13 (h := tq 14 (h := ?_))
     try simp only [nm]
     refine wpAny_done (by kernel_rfl) ?_ _
     clear c25_0 f25_0 c25_1 f25_1
     have HS26 := Lib.hid hs24; try simp only [sz] at HS26
     have a27 := J2 (F5 HS26 M0) (F5 HS26 M1)
     have gg27 := HS26.gcells
     clear hs24
     go_wp2_with fail
     go_roundg g
     case measure => omega
     case rel => exact ⟨_, _, _, xs ++ [(.mk k13 t13 n13 a13 ks13, .agg #[.int .i64 k13, .string t13, .int .i64 n13, .int .i64 a13, .slice A13 ks13.length cap13])], by simp; omega, Lib.hid (by simpa using HS26.retire.mono_ts (mem0 _)), Lib.hid (by simpa [Nd.push] using HSX.out)⟩
   ·
    have hd1 : decide (((endsS E s13).i : Int) < (E.n : Int)) = true := decide_eq_true (by omega)
    have HSX := Lib.hid ((if_neg (by simpa using hs2)).symm.trans HSP21.out)
    go_wp2_with fail
    have hs22 := HS18.drew
    refine wp_region_G [1] (fun Wx => True) (by rfl) ?_ (fun hHeld => ?_)
    · exact trivial
    revert hs22 hHeld
    generalize World.drew _ = wd22
    intro hs22 hHeld
    refine tk 0 (h := ?_)
    try simp only [nm]
    refine rl1 1 fun KK hKK => ?_
    go_simp
    go_at_call 38
    refine (ends_rd hE hs22.rd).mono ?_
    rw [HBE.out]
    rintro e w23 ⟨rfl, hr23, hf23⟩
    have hs24 := (hs22.go hr23 hf23); try simp only [sz] at hs24
    clear hs22
    have c25_0 := hs24.rd.c0
    have f25_0 := hs24.rd.fz 0
    have c25_1 := hs24.rd.c1
    have f25_1 := hs24.rd.fz 1
    clear hHeld
    refine hKK.out _ _ ?_
    clear hKK KK
    try simp only [nm]
    refine tq 2 (h := tq 3 (h := tq 4 (h := tq 5 (h := ?_))))
    try simp only [nm]
    refine tq 6 (h := tq 8 (h := tq 9 (h := tq 10 (h := ?_))))
    try simp only [nm]
    refine wpAny_ready' (rs := [7, 11]) (by kernel_rfl) (by simp) ?_
    refine allReady_cons rfl (fun KK hKK => ?_) (allReady_cons rfl (fun KK hKK => ?_) allReady_nil)
    ·
     go_simp
     refine hKK.out _ _ ?_
     clear hKK KK
     try simp only [nm]
     refine rp1 11 fun KK hKK => ?_
     go_simp
     refine hKK.out _ _ ?_
     clear hKK KK
     try simp only [nm]
     refine tq 12 (h := tq 13 (h := tq 14 (h := ?_)))
     try simp only [nm]
     refine wpAny_done (by kernel_rfl) ?_ _
     clear c25_0 f25_0 c25_1 f25_1
     have HS26 := Lib.hid hs24; try simp only [sz] at HS26
     have a27 := J2 (F5 HS26 M0) (F5 HS26 M1)
     have gg27 := HS26.gcells
     clear hs24
     go_wp2_with fail
     go_at_call 44
     refine (fail_any hE HS26.rd).mono ?_
     rintro e wz ⟨rfl, hbz⟩
     exact ⟨rfl, bad_end (HSX.out).symm (HS26.below hbz).fp⟩
    ·
     go_simp
     refine hKK.out _ _ ?_
     clear hKK KK
     try simp only [nm]
     refine tq 12 (h := ?_)
     try simp only [nm]
     refine rp1 7 fun KK hKK => ?_
     go_simp
     refine hKK.out _ _ ?_
     clear hKK KK
     try simp only [nm]
     refine tq 13 (h := tq 14 (h := ?_))
     try simp only [nm]
     refine wpAny_done (by kernel_rfl) ?_ _
     clear c25_0 f25_0 c25_1 f25_1
     have HS26 := Lib.hid hs24; try simp only [sz] at HS26
     have a27 := J2 (F5 HS26 M0) (F5 HS26 M1)
     have gg27 := HS26.gcells
     clear hs24
     go_wp2_with fail
     go_at_call 44
     refine (fail_any hE HS26.rd).mono ?_
     rintro e wz ⟨rfl, hbz⟩
     exact ⟨rfl, bad_end (HSX.out).symm (HS26.below hbz).fp⟩

end
end Go.Proofs.YtokhfhibdeneeaaGreatDoor

namespace Go.Proofs.YtokhfhibdeneeaaGreatDoor
open Go.RowKit

theorem rounds_le {E : Env} {M : Rm} (_ : EnvOk E M) : rounds E ≤ 900000 := by
  unfold rounds
  omega
set_option maxRecDepth 100000 in
theorem form0 : FormOk 0 41 := ⟨fun _v _W => rfl, fun _E _M _W hE hD hr => program_rd hE (kok hE _ (rounds_le hE)) hD hr (form_ne hE.ok hE.n 0)⟩
set_option maxRecDepth 100000 in
theorem form1 : FormOk 1 36 := ⟨fun _v _W => rfl, fun _E _M _W hE _hD hr => exprForm_rd hE (kok hE _ (rounds_le hE)) hr (form_ne hE.ok hE.n 1)⟩
set_option maxRecDepth 100000 in
theorem form2 : FormOk 2 39 := ⟨fun _v _W => rfl, fun _E _M _W hE _hD hr => stmtsForm_rd hE (kok hE _ (rounds_le hE)) (indexOk hE (kok hE _ (rounds_le hE))) hr (form_ne hE.ok hE.n 2)⟩

/-- The end of one of the three: the result is copied. -/
theorem out_result {fn : Func} (hr : fn.results = #[.cell 2 25, .tmp 3]) {tmps : Array Value} {W : World} {g : Nat} {v0 v1 v2 v3 v4 x : Value} (h2 : tmps.getD 2 undef = .pointer (some ⟨g, 0, none⟩)) (h3 : tmps.getD 3 undef = x) (hrow : W.heap[g]? = some (.cells #[v0, v1, v2, v3, v4] 25 (0, 0))) :
    (results fn tmps).run Tryz.prog W = .ok (.tuple #[.agg #[v0, v1, v2, v3, v4], x]) W := by
  have h2' : tmps[2]?.getD undef = .pointer (some ⟨g, 0, none⟩) := by simpa using h2
  have h3' : tmps[3]?.getD undef = x := by simpa using h3
  have e0 := cell_of_row W g 0 _ _ _ hrow
  have e1 := cell_of_row W g 1 _ _ _ hrow
  have e2 := cell_of_row W g 2 _ _ _ hrow
  have e3 := cell_of_row W g 3 _ _ _ hrow
  have e4 := cell_of_row W g 4 _ _ _ hrow
  simp at e0 e1 e2 e3 e4
  simp [results, hr, go_sem, h2', h3', e0, e1, e2, e3, e4]

set_option maxRecDepth 100000 in
set_option maxHeartbeats 1000000 in
theorem Program_any (l : List UInt8) (w : World) (hgl : Gl w) (hbig : l.length ≤ 140737488351232) : Calls Tryz.prog 21 #[.string ⟨⟨l⟩⟩] w (OutPost w (parseT 0 l)) := by
  have hb1 : Below w.heap.size w (w.alloc (.cells #[.int .i64 0, .string ⟨#[]⟩, .int .i64 0, .int .i64 0, .slice none 0 0] 25)) := (Below.refl _ _).alloc (Nat.le_refl _) _
  have hrd := read_any 0 _ form0 l _ (hgl.below hgl.2.2 hb1) hbig
  have hblk := heap_alloc_new w (.cells #[.int .i64 0, .string ⟨#[]⟩, .int .i64 0, .int .i64 0, .slice none 0 0] 25)
  obtain ⟨R, HR⟩ : ∃ R, Hid (parseT 0 l = R) := ⟨_, rfl⟩
  rw [HR.out] at hrd ⊢
  have HRD := Lib.hid hrd
  have HB1 := Lib.hid (And.intro hb1 hblk)
  clear hrd hb1 hblk hgl HR
  cases R with
  | tree t =>
    obtain ⟨k, s, n, a, ks⟩ := t
    go_enter Tryz.func21, Tryz.ntmps21
    go_wp2_with (go_at_call 35; refine HRD.out.mono ?_; rintro e w2 ⟨hb2, v, rfl, hv⟩; obtain ⟨A, cap, rfl⟩ : ∃ A cap, v = .agg #[.int .i64 k, .string s, .int .i64 n, .int .i64 a, .slice A ks.length cap] := (by have h := hv; unfold LiesA at h; obtain ⟨A, cap, h, _⟩ := h; exact ⟨A, cap, h⟩); have hblk2 := (hb2.block w.heap.size (by simp)).trans HB1.out.2; have q0 := cell_of_row w2 _ 0 _ _ _ hblk2; have q1 := cell_of_row w2 _ 1 _ _ _ hblk2; have q2 := cell_of_row w2 _ 2 _ _ _ hblk2; have q3 := cell_of_row w2 _ 3 _ _ _ hblk2; have q4 := cell_of_row w2 _ 4 _ _ _ hblk2; have f0 := fun i => frozen_of_row w2 _ i _ _ hblk2; simp at q0 q1 q2 q3 q4; have HV := Lib.hid (And.intro hb2 (And.intro hv hblk2)); clear hb2 hv hblk2)
    have hrow := heap_setCell_same _ _ 4 _ _ (.slice A ks.length cap) (heap_setCell_same _ _ 3 _ _ (.int .i64 a) (heap_setCell_same _ _ 2 _ _ (.int .i64 n) (heap_setCell_same _ _ 1 _ _ (.string s) (heap_setCell_same w2 _ 0 _ _ (.int .i64 k) HV.out.2.2))))
    refine bodyPost_ret (out_result rfl rfl rfl hrow) rfl ?_
    have hb := HB1.out.1.trans (HV.out.1.mono (by simp))
    have hsz := HV.out.1.size
    simp only [World.size_alloc] at hsz
    refine ⟨((((hb.setCell (p := ⟨w.heap.size, 0, none⟩) (Nat.le_refl _) _).setCell (p := ⟨w.heap.size, 1, none⟩) (Nat.le_refl _) _).setCell (p := ⟨w.heap.size, 2, none⟩) (Nat.le_refl _) _).setCell (p := ⟨w.heap.size, 3, none⟩) (Nat.le_refl _) _).setCell (p := ⟨w.heap.size, 4, none⟩) (Nat.le_refl _) _, _, rfl, HV.out.2.1.keep (fun b h1 h2 => ?_) (by simp) (by simp only [World.size_setCell]; exact Nat.le_refl _)⟩
    exact heap_setR (by simp only [World.size_alloc] at h1; omega)
  | wrong c a nm =>
    go_enter Tryz.func21, Tryz.ntmps21
    go_wp2_with (go_at_call 35; refine HRD.out.mono ?_; rintro e w2 ⟨hb2, b, rfl, hbl, hw⟩; unfold zeroNdV; have hblk2 := (hb2.block w.heap.size (by simp)).trans HB1.out.2; have q0 := cell_of_row w2 _ 0 _ _ _ hblk2; have q1 := cell_of_row w2 _ 1 _ _ _ hblk2; have q2 := cell_of_row w2 _ 2 _ _ _ hblk2; have q3 := cell_of_row w2 _ 3 _ _ _ hblk2; have q4 := cell_of_row w2 _ 4 _ _ _ hblk2; have f0 := fun i => frozen_of_row w2 _ i _ _ hblk2; simp at q0 q1 q2 q3 q4; have HV := Lib.hid (And.intro hb2 (And.intro hw (And.intro hblk2 hbl))); clear hb2 hw hblk2 hbl)
    have hrow := heap_setCell_same _ _ 4 _ _ (.slice none 0 0) (heap_setCell_same _ _ 3 _ _ (.int .i64 0) (heap_setCell_same _ _ 2 _ _ (.int .i64 0) (heap_setCell_same _ _ 1 _ _ (.string ⟨#[]⟩) (heap_setCell_same w2 _ 0 _ _ (.int .i64 0) HV.out.2.2.1))))
    refine bodyPost_ret (out_result rfl rfl rfl hrow) rfl ?_
    have hb := HB1.out.1.trans (HV.out.1.mono (by simp))
    have hbl := HV.out.2.2.2
    simp only [World.size_alloc] at hbl
    refine ⟨((((hb.setCell (p := ⟨w.heap.size, 0, none⟩) (Nat.le_refl _) _).setCell (p := ⟨w.heap.size, 1, none⟩) (Nat.le_refl _) _).setCell (p := ⟨w.heap.size, 2, none⟩) (Nat.le_refl _) _).setCell (p := ⟨w.heap.size, 3, none⟩) (Nat.le_refl _) _).setCell (p := ⟨w.heap.size, 4, none⟩) (Nat.le_refl _) _, b, rfl, by omega, wrongAt_block HV.out.2.1 (heap_setR (by omega))⟩

set_option maxRecDepth 100000 in
set_option maxHeartbeats 1000000 in
theorem Expr_any (l : List UInt8) (w : World) (hgl : Gl w) (hbig : l.length ≤ 140737488351232) : Calls Tryz.prog 19 #[.string ⟨⟨l⟩⟩] w (OutPost w (parseT 1 l)) := by
  have hb1 : Below w.heap.size w (w.alloc (.cells #[.int .i64 0, .string ⟨#[]⟩, .int .i64 0, .int .i64 0, .slice none 0 0] 25)) := (Below.refl _ _).alloc (Nat.le_refl _) _
  have hrd := read_any 1 _ form1 l _ (hgl.below hgl.2.2 hb1) hbig
  have hblk := heap_alloc_new w (.cells #[.int .i64 0, .string ⟨#[]⟩, .int .i64 0, .int .i64 0, .slice none 0 0] 25)
  obtain ⟨R, HR⟩ : ∃ R, Hid (parseT 1 l = R) := ⟨_, rfl⟩
  rw [HR.out] at hrd ⊢
  have HRD := Lib.hid hrd
  have HB1 := Lib.hid (And.intro hb1 hblk)
  clear hrd hb1 hblk hgl HR
  cases R with
  | tree t =>
    obtain ⟨k, s, n, a, ks⟩ := t
    go_enter Tryz.func19, Tryz.ntmps19
    go_wp2_with (go_at_call 35; refine HRD.out.mono ?_; rintro e w2 ⟨hb2, v, rfl, hv⟩; obtain ⟨A, cap, rfl⟩ : ∃ A cap, v = .agg #[.int .i64 k, .string s, .int .i64 n, .int .i64 a, .slice A ks.length cap] := (by have h := hv; unfold LiesA at h; obtain ⟨A, cap, h, _⟩ := h; exact ⟨A, cap, h⟩); have hblk2 := (hb2.block w.heap.size (by simp)).trans HB1.out.2; have q0 := cell_of_row w2 _ 0 _ _ _ hblk2; have q1 := cell_of_row w2 _ 1 _ _ _ hblk2; have q2 := cell_of_row w2 _ 2 _ _ _ hblk2; have q3 := cell_of_row w2 _ 3 _ _ _ hblk2; have q4 := cell_of_row w2 _ 4 _ _ _ hblk2; have f0 := fun i => frozen_of_row w2 _ i _ _ hblk2; simp at q0 q1 q2 q3 q4; have HV := Lib.hid (And.intro hb2 (And.intro hv hblk2)); clear hb2 hv hblk2)
    have hrow := heap_setCell_same _ _ 4 _ _ (.slice A ks.length cap) (heap_setCell_same _ _ 3 _ _ (.int .i64 a) (heap_setCell_same _ _ 2 _ _ (.int .i64 n) (heap_setCell_same _ _ 1 _ _ (.string s) (heap_setCell_same w2 _ 0 _ _ (.int .i64 k) HV.out.2.2))))
    refine bodyPost_ret (out_result rfl rfl rfl hrow) rfl ?_
    have hb := HB1.out.1.trans (HV.out.1.mono (by simp))
    have hsz := HV.out.1.size
    simp only [World.size_alloc] at hsz
    refine ⟨((((hb.setCell (p := ⟨w.heap.size, 0, none⟩) (Nat.le_refl _) _).setCell (p := ⟨w.heap.size, 1, none⟩) (Nat.le_refl _) _).setCell (p := ⟨w.heap.size, 2, none⟩) (Nat.le_refl _) _).setCell (p := ⟨w.heap.size, 3, none⟩) (Nat.le_refl _) _).setCell (p := ⟨w.heap.size, 4, none⟩) (Nat.le_refl _) _, _, rfl, HV.out.2.1.keep (fun b h1 h2 => ?_) (by simp) (by simp only [World.size_setCell]; exact Nat.le_refl _)⟩
    exact heap_setR (by simp only [World.size_alloc] at h1; omega)
  | wrong c a nm =>
    go_enter Tryz.func19, Tryz.ntmps19
    go_wp2_with (go_at_call 35; refine HRD.out.mono ?_; rintro e w2 ⟨hb2, b, rfl, hbl, hw⟩; unfold zeroNdV; have hblk2 := (hb2.block w.heap.size (by simp)).trans HB1.out.2; have q0 := cell_of_row w2 _ 0 _ _ _ hblk2; have q1 := cell_of_row w2 _ 1 _ _ _ hblk2; have q2 := cell_of_row w2 _ 2 _ _ _ hblk2; have q3 := cell_of_row w2 _ 3 _ _ _ hblk2; have q4 := cell_of_row w2 _ 4 _ _ _ hblk2; have f0 := fun i => frozen_of_row w2 _ i _ _ hblk2; simp at q0 q1 q2 q3 q4; have HV := Lib.hid (And.intro hb2 (And.intro hw (And.intro hblk2 hbl))); clear hb2 hw hblk2 hbl)
    have hrow := heap_setCell_same _ _ 4 _ _ (.slice none 0 0) (heap_setCell_same _ _ 3 _ _ (.int .i64 0) (heap_setCell_same _ _ 2 _ _ (.int .i64 0) (heap_setCell_same _ _ 1 _ _ (.string ⟨#[]⟩) (heap_setCell_same w2 _ 0 _ _ (.int .i64 0) HV.out.2.2.1))))
    refine bodyPost_ret (out_result rfl rfl rfl hrow) rfl ?_
    have hb := HB1.out.1.trans (HV.out.1.mono (by simp))
    have hbl := HV.out.2.2.2
    simp only [World.size_alloc] at hbl
    refine ⟨((((hb.setCell (p := ⟨w.heap.size, 0, none⟩) (Nat.le_refl _) _).setCell (p := ⟨w.heap.size, 1, none⟩) (Nat.le_refl _) _).setCell (p := ⟨w.heap.size, 2, none⟩) (Nat.le_refl _) _).setCell (p := ⟨w.heap.size, 3, none⟩) (Nat.le_refl _) _).setCell (p := ⟨w.heap.size, 4, none⟩) (Nat.le_refl _) _, b, rfl, by omega, wrongAt_block HV.out.2.1 (heap_setR (by omega))⟩

set_option maxRecDepth 100000 in
set_option maxHeartbeats 1000000 in
theorem Statements_any (l : List UInt8) (w : World) (hgl : Gl w) (hbig : l.length ≤ 140737488351232) : Calls Tryz.prog 20 #[.string ⟨⟨l⟩⟩] w (OutPost w (parseT 2 l)) := by
  have hb1 : Below w.heap.size w (w.alloc (.cells #[.int .i64 0, .string ⟨#[]⟩, .int .i64 0, .int .i64 0, .slice none 0 0] 25)) := (Below.refl _ _).alloc (Nat.le_refl _) _
  have hrd := read_any 2 _ form2 l _ (hgl.below hgl.2.2 hb1) hbig
  have hblk := heap_alloc_new w (.cells #[.int .i64 0, .string ⟨#[]⟩, .int .i64 0, .int .i64 0, .slice none 0 0] 25)
  obtain ⟨R, HR⟩ : ∃ R, Hid (parseT 2 l = R) := ⟨_, rfl⟩
  rw [HR.out] at hrd ⊢
  have HRD := Lib.hid hrd
  have HB1 := Lib.hid (And.intro hb1 hblk)
  clear hrd hb1 hblk hgl HR
  cases R with
  | tree t =>
    obtain ⟨k, s, n, a, ks⟩ := t
    go_enter Tryz.func20, Tryz.ntmps20
    go_wp2_with (go_at_call 35; refine HRD.out.mono ?_; rintro e w2 ⟨hb2, v, rfl, hv⟩; obtain ⟨A, cap, rfl⟩ : ∃ A cap, v = .agg #[.int .i64 k, .string s, .int .i64 n, .int .i64 a, .slice A ks.length cap] := (by have h := hv; unfold LiesA at h; obtain ⟨A, cap, h, _⟩ := h; exact ⟨A, cap, h⟩); have hblk2 := (hb2.block w.heap.size (by simp)).trans HB1.out.2; have q0 := cell_of_row w2 _ 0 _ _ _ hblk2; have q1 := cell_of_row w2 _ 1 _ _ _ hblk2; have q2 := cell_of_row w2 _ 2 _ _ _ hblk2; have q3 := cell_of_row w2 _ 3 _ _ _ hblk2; have q4 := cell_of_row w2 _ 4 _ _ _ hblk2; have f0 := fun i => frozen_of_row w2 _ i _ _ hblk2; simp at q0 q1 q2 q3 q4; have HV := Lib.hid (And.intro hb2 (And.intro hv hblk2)); clear hb2 hv hblk2)
    have hrow := heap_setCell_same _ _ 4 _ _ (.slice A ks.length cap) (heap_setCell_same _ _ 3 _ _ (.int .i64 a) (heap_setCell_same _ _ 2 _ _ (.int .i64 n) (heap_setCell_same _ _ 1 _ _ (.string s) (heap_setCell_same w2 _ 0 _ _ (.int .i64 k) HV.out.2.2))))
    refine bodyPost_ret (out_result rfl rfl rfl hrow) rfl ?_
    have hb := HB1.out.1.trans (HV.out.1.mono (by simp))
    have hsz := HV.out.1.size
    simp only [World.size_alloc] at hsz
    refine ⟨((((hb.setCell (p := ⟨w.heap.size, 0, none⟩) (Nat.le_refl _) _).setCell (p := ⟨w.heap.size, 1, none⟩) (Nat.le_refl _) _).setCell (p := ⟨w.heap.size, 2, none⟩) (Nat.le_refl _) _).setCell (p := ⟨w.heap.size, 3, none⟩) (Nat.le_refl _) _).setCell (p := ⟨w.heap.size, 4, none⟩) (Nat.le_refl _) _, _, rfl, HV.out.2.1.keep (fun b h1 h2 => ?_) (by simp) (by simp only [World.size_setCell]; exact Nat.le_refl _)⟩
    exact heap_setR (by simp only [World.size_alloc] at h1; omega)
  | wrong c a nm =>
    go_enter Tryz.func20, Tryz.ntmps20
    go_wp2_with (go_at_call 35; refine HRD.out.mono ?_; rintro e w2 ⟨hb2, b, rfl, hbl, hw⟩; unfold zeroNdV; have hblk2 := (hb2.block w.heap.size (by simp)).trans HB1.out.2; have q0 := cell_of_row w2 _ 0 _ _ _ hblk2; have q1 := cell_of_row w2 _ 1 _ _ _ hblk2; have q2 := cell_of_row w2 _ 2 _ _ _ hblk2; have q3 := cell_of_row w2 _ 3 _ _ _ hblk2; have q4 := cell_of_row w2 _ 4 _ _ _ hblk2; have f0 := fun i => frozen_of_row w2 _ i _ _ hblk2; simp at q0 q1 q2 q3 q4; have HV := Lib.hid (And.intro hb2 (And.intro hw (And.intro hblk2 hbl))); clear hb2 hw hblk2 hbl)
    have hrow := heap_setCell_same _ _ 4 _ _ (.slice none 0 0) (heap_setCell_same _ _ 3 _ _ (.int .i64 0) (heap_setCell_same _ _ 2 _ _ (.int .i64 0) (heap_setCell_same _ _ 1 _ _ (.string ⟨#[]⟩) (heap_setCell_same w2 _ 0 _ _ (.int .i64 0) HV.out.2.2.1))))
    refine bodyPost_ret (out_result rfl rfl rfl hrow) rfl ?_
    have hb := HB1.out.1.trans (HV.out.1.mono (by simp))
    have hbl := HV.out.2.2.2
    simp only [World.size_alloc] at hbl
    refine ⟨((((hb.setCell (p := ⟨w.heap.size, 0, none⟩) (Nat.le_refl _) _).setCell (p := ⟨w.heap.size, 1, none⟩) (Nat.le_refl _) _).setCell (p := ⟨w.heap.size, 2, none⟩) (Nat.le_refl _) _).setCell (p := ⟨w.heap.size, 3, none⟩) (Nat.le_refl _) _).setCell (p := ⟨w.heap.size, 4, none⟩) (Nat.le_refl _) _, b, rfl, by omega, wrongAt_block HV.out.2.1 (heap_setR (by omega))⟩
end Go.Proofs.YtokhfhibdeneeaaGreatDoor

namespace Go.Proofs.YtokhfhibdeneeaaGreatDoor
open Go.RowKit
theorem out_result45 {fn : Func} (hr : fn.results = #[.cell 4 25, .tmp 5]) {tmps : Array Value} {W : World} {g : Nat} {v0 v1 v2 v3 v4 x : Value} (h2 : tmps.getD 4 undef = .pointer (some ⟨g, 0, none⟩)) (h3 : tmps.getD 5 undef = x) (hrow : W.heap[g]? = some (.cells #[v0, v1, v2, v3, v4] 25 (0, 0))) :
    (results fn tmps).run Tryz.prog W = .ok (.tuple #[.agg #[v0, v1, v2, v3, v4], x]) W := by
  have h2' : tmps[4]?.getD undef = .pointer (some ⟨g, 0, none⟩) := by simpa using h2
  have h3' : tmps[5]?.getD undef = x := by simpa using h3
  have e0 := cell_of_row W g 0 _ _ _ hrow
  have e1 := cell_of_row W g 1 _ _ _ hrow
  have e2 := cell_of_row W g 2 _ _ _ hrow
  have e3 := cell_of_row W g 3 _ _ _ hrow
  have e4 := cell_of_row W g 4 _ _ _ hrow
  simp at e0 e1 e2 e3 e4
  simp [results, hr, go_sem, h2', h3', e0, e1, e2, e3, e4]

set_option maxRecDepth 100000 in
set_option maxHeartbeats 1000000 in
theorem reads_0 (l : List UInt8) (w : World) (hgl : Gl w) (hbig : l.length ≤ 140737488351232) : Calls Tryz.prog 8 #[.int .i64 0, .string ⟨⟨l⟩⟩] w (OutPost w (parseT 0 l)) := by
  have hb1 : Below w.heap.size w (w.alloc (.cells #[.int .i64 0, .string ⟨#[]⟩, .int .i64 0, .int .i64 0, .slice none 0 0] 25)) := (Below.refl _ _).alloc (Nat.le_refl _) _
  have hrd := Program_any l _ (hgl.below hgl.2.2 hb1) hbig
  have hblk := heap_alloc_new w (.cells #[.int .i64 0, .string ⟨#[]⟩, .int .i64 0, .int .i64 0, .slice none 0 0] 25)
  obtain ⟨R, HR⟩ : ∃ R, Hid (parseT 0 l = R) := ⟨_, rfl⟩
  rw [HR.out] at hrd ⊢
  have HRD := Lib.hid hrd
  have HB1 := Lib.hid (And.intro hb1 hblk)
  clear hrd hb1 hblk hgl HR
  cases R with
  | tree t =>
    obtain ⟨k, s, n, a, ks⟩ := t
    go_enter Tryz.func8, Tryz.ntmps8
    go_wp2_with (go_at_call 21; refine HRD.out.mono ?_; rintro e w2 ⟨hb2, v, rfl, hv⟩; obtain ⟨A, cap, rfl⟩ : ∃ A cap, v = .agg #[.int .i64 k, .string s, .int .i64 n, .int .i64 a, .slice A ks.length cap] := (by have h := hv; unfold LiesA at h; obtain ⟨A, cap, h, _⟩ := h; exact ⟨A, cap, h⟩); have hblk2 := (hb2.block w.heap.size (by simp)).trans HB1.out.2; have q0 := cell_of_row w2 _ 0 _ _ _ hblk2; have q1 := cell_of_row w2 _ 1 _ _ _ hblk2; have q2 := cell_of_row w2 _ 2 _ _ _ hblk2; have q3 := cell_of_row w2 _ 3 _ _ _ hblk2; have q4 := cell_of_row w2 _ 4 _ _ _ hblk2; have f0 := fun i => frozen_of_row w2 _ i _ _ hblk2; simp at q0 q1 q2 q3 q4; have HV := Lib.hid (And.intro hb2 (And.intro hv hblk2)); clear hb2 hv hblk2)
    have hrow := heap_setCell_same _ _ 4 _ _ (.slice A ks.length cap) (heap_setCell_same _ _ 3 _ _ (.int .i64 a) (heap_setCell_same _ _ 2 _ _ (.int .i64 n) (heap_setCell_same _ _ 1 _ _ (.string s) (heap_setCell_same w2 _ 0 _ _ (.int .i64 k) HV.out.2.2))))
    refine bodyPost_ret (out_result45 rfl rfl rfl hrow) rfl ?_
    have hb := HB1.out.1.trans (HV.out.1.mono (by simp))
    have hsz := HV.out.1.size
    simp only [World.size_alloc] at hsz
    refine ⟨((((hb.setCell (p := ⟨w.heap.size, 0, none⟩) (Nat.le_refl _) _).setCell (p := ⟨w.heap.size, 1, none⟩) (Nat.le_refl _) _).setCell (p := ⟨w.heap.size, 2, none⟩) (Nat.le_refl _) _).setCell (p := ⟨w.heap.size, 3, none⟩) (Nat.le_refl _) _).setCell (p := ⟨w.heap.size, 4, none⟩) (Nat.le_refl _) _, _, rfl, HV.out.2.1.keep (fun b h1 h2 => ?_) (by simp) (by simp only [World.size_setCell]; exact Nat.le_refl _)⟩
    exact heap_setR (by simp only [World.size_alloc] at h1; omega)
  | wrong c a nm =>
    go_enter Tryz.func8, Tryz.ntmps8
    go_wp2_with (go_at_call 21; refine HRD.out.mono ?_; rintro e w2 ⟨hb2, b, rfl, hbl, hw⟩; unfold zeroNdV; have hblk2 := (hb2.block w.heap.size (by simp)).trans HB1.out.2; have q0 := cell_of_row w2 _ 0 _ _ _ hblk2; have q1 := cell_of_row w2 _ 1 _ _ _ hblk2; have q2 := cell_of_row w2 _ 2 _ _ _ hblk2; have q3 := cell_of_row w2 _ 3 _ _ _ hblk2; have q4 := cell_of_row w2 _ 4 _ _ _ hblk2; have f0 := fun i => frozen_of_row w2 _ i _ _ hblk2; simp at q0 q1 q2 q3 q4; have HV := Lib.hid (And.intro hb2 (And.intro hw (And.intro hblk2 hbl))); clear hb2 hw hblk2 hbl)
    have hrow := heap_setCell_same _ _ 4 _ _ (.slice none 0 0) (heap_setCell_same _ _ 3 _ _ (.int .i64 0) (heap_setCell_same _ _ 2 _ _ (.int .i64 0) (heap_setCell_same _ _ 1 _ _ (.string ⟨#[]⟩) (heap_setCell_same w2 _ 0 _ _ (.int .i64 0) HV.out.2.2.1))))
    refine bodyPost_ret (out_result45 rfl rfl rfl hrow) rfl ?_
    have hb := HB1.out.1.trans (HV.out.1.mono (by simp))
    have hbl := HV.out.2.2.2
    simp only [World.size_alloc] at hbl
    refine ⟨((((hb.setCell (p := ⟨w.heap.size, 0, none⟩) (Nat.le_refl _) _).setCell (p := ⟨w.heap.size, 1, none⟩) (Nat.le_refl _) _).setCell (p := ⟨w.heap.size, 2, none⟩) (Nat.le_refl _) _).setCell (p := ⟨w.heap.size, 3, none⟩) (Nat.le_refl _) _).setCell (p := ⟨w.heap.size, 4, none⟩) (Nat.le_refl _) _, b, rfl, by omega, wrongAt_block HV.out.2.1 (heap_setR (by omega))⟩

set_option maxRecDepth 100000 in
set_option maxHeartbeats 1000000 in
theorem reads_1 (l : List UInt8) (w : World) (hgl : Gl w) (hbig : l.length ≤ 140737488351232) : Calls Tryz.prog 8 #[.int .i64 1, .string ⟨⟨l⟩⟩] w (OutPost w (parseT 1 l)) := by
  have hb1 : Below w.heap.size w (w.alloc (.cells #[.int .i64 0, .string ⟨#[]⟩, .int .i64 0, .int .i64 0, .slice none 0 0] 25)) := (Below.refl _ _).alloc (Nat.le_refl _) _
  have hrd := Expr_any l _ (hgl.below hgl.2.2 hb1) hbig
  have hblk := heap_alloc_new w (.cells #[.int .i64 0, .string ⟨#[]⟩, .int .i64 0, .int .i64 0, .slice none 0 0] 25)
  obtain ⟨R, HR⟩ : ∃ R, Hid (parseT 1 l = R) := ⟨_, rfl⟩
  rw [HR.out] at hrd ⊢
  have HRD := Lib.hid hrd
  have HB1 := Lib.hid (And.intro hb1 hblk)
  clear hrd hb1 hblk hgl HR
  cases R with
  | tree t =>
    obtain ⟨k, s, n, a, ks⟩ := t
    go_enter Tryz.func8, Tryz.ntmps8
    go_wp2_with (go_at_call 19; refine HRD.out.mono ?_; rintro e w2 ⟨hb2, v, rfl, hv⟩; obtain ⟨A, cap, rfl⟩ : ∃ A cap, v = .agg #[.int .i64 k, .string s, .int .i64 n, .int .i64 a, .slice A ks.length cap] := (by have h := hv; unfold LiesA at h; obtain ⟨A, cap, h, _⟩ := h; exact ⟨A, cap, h⟩); have hblk2 := (hb2.block w.heap.size (by simp)).trans HB1.out.2; have q0 := cell_of_row w2 _ 0 _ _ _ hblk2; have q1 := cell_of_row w2 _ 1 _ _ _ hblk2; have q2 := cell_of_row w2 _ 2 _ _ _ hblk2; have q3 := cell_of_row w2 _ 3 _ _ _ hblk2; have q4 := cell_of_row w2 _ 4 _ _ _ hblk2; have f0 := fun i => frozen_of_row w2 _ i _ _ hblk2; simp at q0 q1 q2 q3 q4; have HV := Lib.hid (And.intro hb2 (And.intro hv hblk2)); clear hb2 hv hblk2)
    have hrow := heap_setCell_same _ _ 4 _ _ (.slice A ks.length cap) (heap_setCell_same _ _ 3 _ _ (.int .i64 a) (heap_setCell_same _ _ 2 _ _ (.int .i64 n) (heap_setCell_same _ _ 1 _ _ (.string s) (heap_setCell_same w2 _ 0 _ _ (.int .i64 k) HV.out.2.2))))
    refine bodyPost_ret (out_result45 rfl rfl rfl hrow) rfl ?_
    have hb := HB1.out.1.trans (HV.out.1.mono (by simp))
    have hsz := HV.out.1.size
    simp only [World.size_alloc] at hsz
    refine ⟨((((hb.setCell (p := ⟨w.heap.size, 0, none⟩) (Nat.le_refl _) _).setCell (p := ⟨w.heap.size, 1, none⟩) (Nat.le_refl _) _).setCell (p := ⟨w.heap.size, 2, none⟩) (Nat.le_refl _) _).setCell (p := ⟨w.heap.size, 3, none⟩) (Nat.le_refl _) _).setCell (p := ⟨w.heap.size, 4, none⟩) (Nat.le_refl _) _, _, rfl, HV.out.2.1.keep (fun b h1 h2 => ?_) (by simp) (by simp only [World.size_setCell]; exact Nat.le_refl _)⟩
    exact heap_setR (by simp only [World.size_alloc] at h1; omega)
  | wrong c a nm =>
    go_enter Tryz.func8, Tryz.ntmps8
    go_wp2_with (go_at_call 19; refine HRD.out.mono ?_; rintro e w2 ⟨hb2, b, rfl, hbl, hw⟩; unfold zeroNdV; have hblk2 := (hb2.block w.heap.size (by simp)).trans HB1.out.2; have q0 := cell_of_row w2 _ 0 _ _ _ hblk2; have q1 := cell_of_row w2 _ 1 _ _ _ hblk2; have q2 := cell_of_row w2 _ 2 _ _ _ hblk2; have q3 := cell_of_row w2 _ 3 _ _ _ hblk2; have q4 := cell_of_row w2 _ 4 _ _ _ hblk2; have f0 := fun i => frozen_of_row w2 _ i _ _ hblk2; simp at q0 q1 q2 q3 q4; have HV := Lib.hid (And.intro hb2 (And.intro hw (And.intro hblk2 hbl))); clear hb2 hw hblk2 hbl)
    have hrow := heap_setCell_same _ _ 4 _ _ (.slice none 0 0) (heap_setCell_same _ _ 3 _ _ (.int .i64 0) (heap_setCell_same _ _ 2 _ _ (.int .i64 0) (heap_setCell_same _ _ 1 _ _ (.string ⟨#[]⟩) (heap_setCell_same w2 _ 0 _ _ (.int .i64 0) HV.out.2.2.1))))
    refine bodyPost_ret (out_result45 rfl rfl rfl hrow) rfl ?_
    have hb := HB1.out.1.trans (HV.out.1.mono (by simp))
    have hbl := HV.out.2.2.2
    simp only [World.size_alloc] at hbl
    refine ⟨((((hb.setCell (p := ⟨w.heap.size, 0, none⟩) (Nat.le_refl _) _).setCell (p := ⟨w.heap.size, 1, none⟩) (Nat.le_refl _) _).setCell (p := ⟨w.heap.size, 2, none⟩) (Nat.le_refl _) _).setCell (p := ⟨w.heap.size, 3, none⟩) (Nat.le_refl _) _).setCell (p := ⟨w.heap.size, 4, none⟩) (Nat.le_refl _) _, b, rfl, by omega, wrongAt_block HV.out.2.1 (heap_setR (by omega))⟩

set_option maxRecDepth 100000 in
set_option maxHeartbeats 1000000 in
theorem reads_2 (l : List UInt8) (w : World) (hgl : Gl w) (hbig : l.length ≤ 140737488351232) : Calls Tryz.prog 8 #[.int .i64 2, .string ⟨⟨l⟩⟩] w (OutPost w (parseT 2 l)) := by
  have hb1 : Below w.heap.size w (w.alloc (.cells #[.int .i64 0, .string ⟨#[]⟩, .int .i64 0, .int .i64 0, .slice none 0 0] 25)) := (Below.refl _ _).alloc (Nat.le_refl _) _
  have hrd := Statements_any l _ (hgl.below hgl.2.2 hb1) hbig
  have hblk := heap_alloc_new w (.cells #[.int .i64 0, .string ⟨#[]⟩, .int .i64 0, .int .i64 0, .slice none 0 0] 25)
  obtain ⟨R, HR⟩ : ∃ R, Hid (parseT 2 l = R) := ⟨_, rfl⟩
  rw [HR.out] at hrd ⊢
  have HRD := Lib.hid hrd
  have HB1 := Lib.hid (And.intro hb1 hblk)
  clear hrd hb1 hblk hgl HR
  cases R with
  | tree t =>
    obtain ⟨k, s, n, a, ks⟩ := t
    go_enter Tryz.func8, Tryz.ntmps8
    go_wp2_with (go_at_call 20; refine HRD.out.mono ?_; rintro e w2 ⟨hb2, v, rfl, hv⟩; obtain ⟨A, cap, rfl⟩ : ∃ A cap, v = .agg #[.int .i64 k, .string s, .int .i64 n, .int .i64 a, .slice A ks.length cap] := (by have h := hv; unfold LiesA at h; obtain ⟨A, cap, h, _⟩ := h; exact ⟨A, cap, h⟩); have hblk2 := (hb2.block w.heap.size (by simp)).trans HB1.out.2; have q0 := cell_of_row w2 _ 0 _ _ _ hblk2; have q1 := cell_of_row w2 _ 1 _ _ _ hblk2; have q2 := cell_of_row w2 _ 2 _ _ _ hblk2; have q3 := cell_of_row w2 _ 3 _ _ _ hblk2; have q4 := cell_of_row w2 _ 4 _ _ _ hblk2; have f0 := fun i => frozen_of_row w2 _ i _ _ hblk2; simp at q0 q1 q2 q3 q4; have HV := Lib.hid (And.intro hb2 (And.intro hv hblk2)); clear hb2 hv hblk2)
    have hrow := heap_setCell_same _ _ 4 _ _ (.slice A ks.length cap) (heap_setCell_same _ _ 3 _ _ (.int .i64 a) (heap_setCell_same _ _ 2 _ _ (.int .i64 n) (heap_setCell_same _ _ 1 _ _ (.string s) (heap_setCell_same w2 _ 0 _ _ (.int .i64 k) HV.out.2.2))))
    refine bodyPost_ret (out_result45 rfl rfl rfl hrow) rfl ?_
    have hb := HB1.out.1.trans (HV.out.1.mono (by simp))
    have hsz := HV.out.1.size
    simp only [World.size_alloc] at hsz
    refine ⟨((((hb.setCell (p := ⟨w.heap.size, 0, none⟩) (Nat.le_refl _) _).setCell (p := ⟨w.heap.size, 1, none⟩) (Nat.le_refl _) _).setCell (p := ⟨w.heap.size, 2, none⟩) (Nat.le_refl _) _).setCell (p := ⟨w.heap.size, 3, none⟩) (Nat.le_refl _) _).setCell (p := ⟨w.heap.size, 4, none⟩) (Nat.le_refl _) _, _, rfl, HV.out.2.1.keep (fun b h1 h2 => ?_) (by simp) (by simp only [World.size_setCell]; exact Nat.le_refl _)⟩
    exact heap_setR (by simp only [World.size_alloc] at h1; omega)
  | wrong c a nm =>
    go_enter Tryz.func8, Tryz.ntmps8
    go_wp2_with (go_at_call 20; refine HRD.out.mono ?_; rintro e w2 ⟨hb2, b, rfl, hbl, hw⟩; unfold zeroNdV; have hblk2 := (hb2.block w.heap.size (by simp)).trans HB1.out.2; have q0 := cell_of_row w2 _ 0 _ _ _ hblk2; have q1 := cell_of_row w2 _ 1 _ _ _ hblk2; have q2 := cell_of_row w2 _ 2 _ _ _ hblk2; have q3 := cell_of_row w2 _ 3 _ _ _ hblk2; have q4 := cell_of_row w2 _ 4 _ _ _ hblk2; have f0 := fun i => frozen_of_row w2 _ i _ _ hblk2; simp at q0 q1 q2 q3 q4; have HV := Lib.hid (And.intro hb2 (And.intro hw (And.intro hblk2 hbl))); clear hb2 hw hblk2 hbl)
    have hrow := heap_setCell_same _ _ 4 _ _ (.slice none 0 0) (heap_setCell_same _ _ 3 _ _ (.int .i64 0) (heap_setCell_same _ _ 2 _ _ (.int .i64 0) (heap_setCell_same _ _ 1 _ _ (.string ⟨#[]⟩) (heap_setCell_same w2 _ 0 _ _ (.int .i64 0) HV.out.2.2.1))))
    refine bodyPost_ret (out_result45 rfl rfl rfl hrow) rfl ?_
    have hb := HB1.out.1.trans (HV.out.1.mono (by simp))
    have hbl := HV.out.2.2.2
    simp only [World.size_alloc] at hbl
    refine ⟨((((hb.setCell (p := ⟨w.heap.size, 0, none⟩) (Nat.le_refl _) _).setCell (p := ⟨w.heap.size, 1, none⟩) (Nat.le_refl _) _).setCell (p := ⟨w.heap.size, 2, none⟩) (Nat.le_refl _) _).setCell (p := ⟨w.heap.size, 3, none⟩) (Nat.le_refl _) _).setCell (p := ⟨w.heap.size, 4, none⟩) (Nat.le_refl _) _, b, rfl, by omega, wrongAt_block HV.out.2.1 (heap_setR (by omega))⟩

theorem reads_any (k : Nat) (hk : k < 3) (l : List UInt8) (w : World) (hgl : Gl w) (hbig : l.length ≤ 140737488351232) : Calls Tryz.prog 8 #[.int .i64 k, .string ⟨⟨l⟩⟩] w (OutPost w (parseT k l)) := by
  match k, hk with
  | 0, _ => exact reads_0 l w hgl hbig
  | 1, _ => exact reads_1 l w hgl hbig
  | 2, _ => exact reads_2 l w hgl hbig

theorem asWrong (p : Value) (w : World) : Sem.run Tryz.prog (Instr.typeAssert (.iface 43 p) 27 43 true) w = .ok (.tuple #[p, .bool true]) w := by kernel_rfl
theorem asWrongNil (w : World) : Sem.run Tryz.prog (Instr.typeAssert .nilIface 27 43 true) w = .ok (.tuple #[.pointer none, .bool false]) w := by kernel_rfl
set_option maxRecDepth 100000 in
set_option maxHeartbeats 1000000 in
theorem told_hit (b : Nat) (a : Int) (nm : ByteArray) (w : World) (h : WrongAt w b 30 a nm) : Calls Tryz.prog 11 #[.iface 43 (.pointer (some ⟨b, 0, none⟩)), .agg #[.int .i64 30, .int .i64 a, .string nm]] w fun e w' => e = .returned (.bool true) ∧ Below w.heap.size w w' := by
  have hb : b < w.heap.size := World.block_lt_of_cell? w _ h.1
  have c0 := fun o => (World.cell?_of_block (w := w) (w' := w.alloc o) (a := ⟨b, 0, none⟩) (((Below.refl _ _).alloc (Nat.le_refl _) o).block _ hb)).trans h.1
  have c1 := fun o => (World.cell?_of_block (w := w) (w' := w.alloc o) (a := ⟨b, 1, none⟩) (((Below.refl _ _).alloc (Nat.le_refl _) o).block _ hb)).trans h.2.1
  have c2 := fun o => (World.cell?_of_block (w := w) (w' := w.alloc o) (a := ⟨b, 2, none⟩) (((Below.refl _ _).alloc (Nat.le_refl _) o).block _ hb)).trans h.2.2.1
  have hta := asWrong
  clear h
  go_enter Tryz.func11, Tryz.ntmps11
  go_wp2_with fail
  go_quiet (fail)
  go_wp2_with fail
  go_ret
  exact ⟨rfl, ((Below.refl _ _).alloc (Nat.le_refl _) _).trans ((belowN _ nq).mono (by simp))⟩
end Go.Proofs.YtokhfhibdeneeaaGreatDoor

namespace Go.Proofs.YtokhfhibdeneeaaGreatDoor

def wordL (l : List UInt8) : Bool := wordsA.any (fun x => l == x.data.toList)
theorem wordB_l (l : List UInt8) : wordB ⟨⟨l⟩⟩ = wordL l := by
  unfold wordB wordL
  simp only [data_toList]
theorem oneR_word (p : Nat) (c : UInt8) (r : List UInt8) (n : Nat) (k : Int) (h : ((c != 59) && (c != 34) && !digitB c.toNat && letterB c.toNat) = true) (hn : runN true (c :: r) = n) (h5 : ¬ 40 < n) (hk : (if wordL ((c :: r).take n) then (3 : Int) else 2) = k) :
    oneR p (c :: r) = .ok (⟨k, (c :: r).take n, p⟩, p + n) := by
  simp only [Bool.and_eq_true, bne_iff_ne, ne_eq, Bool.not_eq_true'] at h
  obtain ⟨⟨⟨h1, h2⟩, h3⟩, h4⟩ := h
  rw [oneR, if_neg h1, if_neg h2, h3, if_neg (by decide), if_pos h4, hn, if_neg h5, wordB_l, hk]

def s1 : List UInt8 := [97, 32, 45, 32, 98, 32, 42, 32, 99]
def s2 : List UInt8 := [120, 44, 32, 111, 107, 32, 58, 61, 32, 97, 32, 43, 32, 98]
def s3 : List UInt8 := [102, 117, 110, 99, 32, 109, 97, 105, 110, 40, 41, 32, 123, 32, 102, 40, 41, 32, 125]
def t1 : List Tok := [⟨2, [97], 0⟩, ⟨7, [45], 2⟩, ⟨2, [98], 4⟩, ⟨7, [42], 6⟩, ⟨2, [99], 8⟩, ⟨1, [], 9⟩]
theorem scan1 : scanT s1 = .ok t1 := by
  unfold scanT
  rw [if_neg (by decide)]
  unfold s1
  rw [scanR_cons, if_neg (by decide), if_neg (by decide), if_neg (by decide), show oneR 0 [97, 32, 45, 32, 98, 32, 42, 32, 99] = .ok (⟨2, [97], 0⟩, 1) from oneR_word 0 _ _ 1 2 (by decide) (by decide) (by decide) (by decide)]
  simp only [List.drop_zero, List.nil_append, Nat.reduceSub]
  rw [scanR_cons, if_neg (by decide), if_pos (by decide)]
  rw [scanR_cons, if_neg (by decide), if_neg (by decide), if_neg (by decide), show oneR 2 [45, 32, 98, 32, 42, 32, 99] = .ok (⟨7, [45], 2⟩, 3) from rfl]
  simp only [List.drop_zero, List.nil_append, List.cons_append, Nat.reduceSub, Nat.reduceAdd]
  rw [scanR_cons, if_neg (by decide), if_pos (by decide)]
  rw [scanR_cons, if_neg (by decide), if_neg (by decide), if_neg (by decide), show oneR 4 [98, 32, 42, 32, 99] = .ok (⟨2, [98], 4⟩, 5) from oneR_word 4 _ _ 1 2 (by decide) (by decide) (by decide) (by decide)]
  simp only [List.drop_zero, List.nil_append, List.cons_append, Nat.reduceSub, Nat.reduceAdd]
  rw [scanR_cons, if_neg (by decide), if_pos (by decide)]
  rw [scanR_cons, if_neg (by decide), if_neg (by decide), if_neg (by decide), show oneR 6 [42, 32, 99] = .ok (⟨7, [42], 6⟩, 7) from rfl]
  simp only [List.drop_zero, List.nil_append, List.cons_append, Nat.reduceSub, Nat.reduceAdd]
  rw [scanR_cons, if_neg (by decide), if_pos (by decide)]
  rw [scanR_cons, if_neg (by decide), if_neg (by decide), if_neg (by decide), show oneR 8 [99] = .ok (⟨2, [99], 8⟩, 9) from oneR_word 8 _ _ 1 2 (by decide) (by decide) (by decide) (by decide)]
  simp only [List.drop_zero, List.nil_append, List.cons_append, Nat.reduceSub, Nat.reduceAdd]
  rw [scanR_nil]
  kernel_rfl
def t2 : List Tok := [⟨2, [120], 0⟩, ⟨7, [44], 1⟩, ⟨2, [111, 107], 3⟩, ⟨7, [58, 61], 6⟩, ⟨2, [97], 9⟩, ⟨7, [43], 11⟩, ⟨2, [98], 13⟩, ⟨1, [], 14⟩]
theorem scan2 : scanT s2 = .ok t2 := by
  unfold scanT
  rw [if_neg (by decide)]
  unfold s2
  rw [scanR_cons, if_neg (by decide), if_neg (by decide), if_neg (by decide), show oneR 0 [120, 44, 32, 111, 107, 32, 58, 61, 32, 97, 32, 43, 32, 98] = .ok (⟨2, [120], 0⟩, 1) from oneR_word 0 _ _ 1 2 (by decide) (by decide) (by decide) (by decide)]
  simp only [List.drop_zero, List.nil_append, Nat.reduceSub]
  rw [scanR_cons, if_neg (by decide), if_neg (by decide), if_neg (by decide), show oneR 1 [44, 32, 111, 107, 32, 58, 61, 32, 97, 32, 43, 32, 98] = .ok (⟨7, [44], 1⟩, 2) from rfl]
  simp only [List.drop_zero, List.nil_append, List.cons_append, Nat.reduceSub]
  rw [scanR_cons, if_neg (by decide), if_pos (by decide)]
  rw [scanR_cons, if_neg (by decide), if_neg (by decide), if_neg (by decide), show oneR 3 [111, 107, 32, 58, 61, 32, 97, 32, 43, 32, 98] = .ok (⟨2, [111, 107], 3⟩, 5) from oneR_word 3 _ _ 2 2 (by decide) (by decide) (by decide) (by decide)]
  simp only [List.drop_succ_cons, List.drop_zero, List.nil_append, List.cons_append, Nat.reduceSub, Nat.reduceAdd]
  rw [scanR_cons, if_neg (by decide), if_pos (by decide)]
  rw [scanR_cons, if_neg (by decide), if_neg (by decide), if_neg (by decide), show oneR 6 [58, 61, 32, 97, 32, 43, 32, 98] = .ok (⟨7, [58, 61], 6⟩, 8) from rfl]
  simp only [List.drop_succ_cons, List.drop_zero, List.nil_append, List.cons_append, Nat.reduceSub, Nat.reduceAdd]
  rw [scanR_cons, if_neg (by decide), if_pos (by decide)]
  rw [scanR_cons, if_neg (by decide), if_neg (by decide), if_neg (by decide), show oneR 9 [97, 32, 43, 32, 98] = .ok (⟨2, [97], 9⟩, 10) from oneR_word 9 _ _ 1 2 (by decide) (by decide) (by decide) (by decide)]
  simp only [List.drop_zero, List.nil_append, List.cons_append, Nat.reduceSub, Nat.reduceAdd]
  rw [scanR_cons, if_neg (by decide), if_pos (by decide)]
  rw [scanR_cons, if_neg (by decide), if_neg (by decide), if_neg (by decide), show oneR 11 [43, 32, 98] = .ok (⟨7, [43], 11⟩, 12) from rfl]
  simp only [List.drop_zero, List.nil_append, List.cons_append, Nat.reduceSub, Nat.reduceAdd]
  rw [scanR_cons, if_neg (by decide), if_pos (by decide)]
  rw [scanR_cons, if_neg (by decide), if_neg (by decide), if_neg (by decide), show oneR 13 [98] = .ok (⟨2, [98], 13⟩, 14) from oneR_word 13 _ _ 1 2 (by decide) (by decide) (by decide) (by decide)]
  simp only [List.drop_zero, List.nil_append, List.cons_append, Nat.reduceSub, Nat.reduceAdd]
  rw [scanR_nil]
  kernel_rfl
def t3 : List Tok := [⟨3, [102, 117, 110, 99], 0⟩, ⟨2, [109, 97, 105, 110], 5⟩, ⟨7, [40], 9⟩, ⟨7, [41], 10⟩, ⟨7, [123], 12⟩, ⟨2, [102], 14⟩, ⟨7, [40], 15⟩, ⟨7, [41], 16⟩, ⟨7, [125], 18⟩, ⟨1, [], 19⟩]
theorem scan3 : scanT s3 = .ok t3 := by
  unfold scanT
  rw [if_neg (by decide)]
  unfold s3
  rw [scanR_cons, if_neg (by decide), if_neg (by decide), if_neg (by decide), show oneR 0 [102, 117, 110, 99, 32, 109, 97, 105, 110, 40, 41, 32, 123, 32, 102, 40, 41, 32, 125] = .ok (⟨3, [102, 117, 110, 99], 0⟩, 4) from oneR_word 0 _ _ 4 3 (by decide) (by decide) (by decide) (by decide)]
  simp only [List.drop_succ_cons, List.drop_zero, List.nil_append, Nat.reduceSub]
  rw [scanR_cons, if_neg (by decide), if_pos (by decide)]
  rw [scanR_cons, if_neg (by decide), if_neg (by decide), if_neg (by decide), show oneR 5 [109, 97, 105, 110, 40, 41, 32, 123, 32, 102, 40, 41, 32, 125] = .ok (⟨2, [109, 97, 105, 110], 5⟩, 9) from oneR_word 5 _ _ 4 2 (by decide) (by decide) (by decide) (by decide)]
  simp only [List.drop_succ_cons, List.drop_zero, List.nil_append, List.cons_append, Nat.reduceSub, Nat.reduceAdd]
  rw [scanR_cons, if_neg (by decide), if_neg (by decide), if_neg (by decide), show oneR 9 [40, 41, 32, 123, 32, 102, 40, 41, 32, 125] = .ok (⟨7, [40], 9⟩, 10) from rfl]
  simp only [List.drop_zero, List.nil_append, List.cons_append, Nat.reduceSub]
  rw [scanR_cons, if_neg (by decide), if_neg (by decide), if_neg (by decide), show oneR 10 [41, 32, 123, 32, 102, 40, 41, 32, 125] = .ok (⟨7, [41], 10⟩, 11) from rfl]
  simp only [List.drop_zero, List.nil_append, List.cons_append, Nat.reduceSub]
  rw [scanR_cons, if_neg (by decide), if_pos (by decide)]
  rw [scanR_cons, if_neg (by decide), if_neg (by decide), if_neg (by decide), show oneR 12 [123, 32, 102, 40, 41, 32, 125] = .ok (⟨7, [123], 12⟩, 13) from rfl]
  simp only [List.drop_zero, List.nil_append, List.cons_append, Nat.reduceSub, Nat.reduceAdd]
  rw [scanR_cons, if_neg (by decide), if_pos (by decide)]
  rw [scanR_cons, if_neg (by decide), if_neg (by decide), if_neg (by decide), show oneR 14 [102, 40, 41, 32, 125] = .ok (⟨2, [102], 14⟩, 15) from oneR_word 14 _ _ 1 2 (by decide) (by decide) (by decide) (by decide)]
  simp only [List.drop_zero, List.nil_append, List.cons_append, Nat.reduceSub, Nat.reduceAdd]
  rw [scanR_cons, if_neg (by decide), if_neg (by decide), if_neg (by decide), show oneR 15 [40, 41, 32, 125] = .ok (⟨7, [40], 15⟩, 16) from rfl]
  simp only [List.drop_zero, List.nil_append, List.cons_append, Nat.reduceSub]
  rw [scanR_cons, if_neg (by decide), if_neg (by decide), if_neg (by decide), show oneR 16 [41, 32, 125] = .ok (⟨7, [41], 16⟩, 17) from rfl]
  simp only [List.drop_zero, List.nil_append, List.cons_append, Nat.reduceSub]
  rw [scanR_cons, if_neg (by decide), if_pos (by decide)]
  rw [scanR_cons, if_neg (by decide), if_neg (by decide), if_neg (by decide), show oneR 18 [125] = .ok (⟨7, [125], 18⟩, 19) from rfl]
  simp only [List.drop_zero, List.nil_append, List.cons_append, Nat.reduceSub, Nat.reduceAdd]
  rw [scanR_nil]
  kernel_rfl
def T1 : Nd := .mk 51 (bs [45]) 0 2 [.mk 14 (bs [97]) 0 0 [], .mk 51 (bs [42]) 0 6 [.mk 14 (bs [98]) 0 4 [], .mk 14 (bs [99]) 0 8 []]]
theorem read1 : readR (envOf s1 t1) (formR (envOf s1 t1) 1) = .ok T1 ⟨6, false, false, false⟩ := by kernel_rfl
theorem read2 : readR (envOf s2 t2) (formR (envOf s2 t2) 2) = .bad 5 := by kernel_rfl
def T3 : Nd := .mk 1 (bs []) 0 0 [.mk 5 (bs [109, 97, 105, 110]) 0 0 [.mk 13 (bs []) 0 9 [], .mk 17 (bs []) 0 12 [.mk 30 (bs []) 0 14 [.mk 48 (bs []) 0 15 [.mk 14 (bs [102]) 0 14 []]]]]]
theorem read3 : readR (envOf s3 t3) (formR (envOf s3 t3) 0) = .ok T3 ⟨10, false, false, false⟩ := by kernel_rfl
theorem right1 : rightW T1 = none := by kernel_rfl
theorem right3 : rightW T3 = none := by kernel_rfl
end Go.Proofs.YtokhfhibdeneeaaGreatDoor

namespace Go.Proofs.YtokhfhibdeneeaaGreatDoor
open Go.RowKit

theorem parse1 : parseT 1 s1 = .tree T1 := by
  rw [parseT, scan1]
  show outOf _ (readR (envOf s1 t1) (formR (envOf s1 t1) 1)) = _
  rw [read1, outOf, right1]
theorem parse2 : parseT 2 s2 = .wrong 30 11 ⟨#[43]⟩ := by
  rw [parseT, scan2]
  show outOf _ (readR (envOf s2 t2) (formR (envOf s2 t2) 2)) = _
  rw [read2, outOf]
  rfl
theorem parse3 : parseT 0 s3 = .tree T3 := by
  rw [parseT, scan3]
  show outOf _ (readR (envOf s3 t3) (formR (envOf s3 t3) 0)) = _
  rw [read3, outOf, right3]
theorem tree1_cells {w : World} {B : Nat} {v : Value} (h : Lies w B T1 v) : ∃ kb o cap, v = .agg #[.int .i64 51, .string ⟨#[45]⟩, .int .i64 0, .int .i64 2, .slice (some ⟨kb, o, none⟩) 2 cap] ∧ kb < B ∧ w.cell? ⟨kb, o + 5 + 1, none⟩ = some (.string ⟨#[42]⟩) := by
  unfold T1 Lies at h
  obtain ⟨A, cap, rfl, _, _, _, _, _, _, hk⟩ := h
  rcases hk with hk | ⟨b, o, rfl, hb, hl⟩
  · cases hk
  · obtain ⟨k, s, n, a, A2, cap2, ks, ht, _, h1, _⟩ := LiesL.get 1 (by decide) hl
    simp only [List.getElem?_cons_succ, List.getElem?_cons_zero, Option.some.injEq, Nd.mk.injEq] at ht
    obtain ⟨_, rfl, _⟩ := ht
    exact ⟨b, o, cap, rfl, hb, h1⟩
theorem tree3_cells {w : World} {B : Nat} {v : Value} (h : Lies w B T3 v) : ∃ kb o cap, v = .agg #[.int .i64 1, .string ⟨#[]⟩, .int .i64 0, .int .i64 0, .slice (some ⟨kb, o, none⟩) 1 cap] ∧ kb < B ∧ w.cell? ⟨kb, o, none⟩ = some (.int .i64 5) ∧ w.cell? ⟨kb, o + 1, none⟩ = some (.string ⟨#[109, 97, 105, 110]⟩) := by
  unfold T3 Lies at h
  obtain ⟨A, cap, rfl, _, _, _, _, _, _, hk⟩ := h
  rcases hk with hk | ⟨b, o, rfl, hb, hl⟩
  · cases hk
  · obtain ⟨k, s, n, a, A2, cap2, ks, ht, h0, h1, _⟩ := LiesL.get 0 (by decide) hl
    simp only [List.getElem?_cons_zero, Option.some.injEq, Nd.mk.injEq] at ht
    obtain ⟨rfl, rfl, _⟩ := ht
    exact ⟨b, o, cap, rfl, hb, by simpa using h0, by simpa [bs] using h1⟩

set_option maxRecDepth 100000 in
set_option maxHeartbeats 2000000 in
theorem known_any (w : World) (hgl : Gl w) : Calls Tryz.prog 7 #[] w fun e w' => e = .returned (.bool true) ∧ Below w.heap.size w w' := by
  have h1 : ∀ w, Gl w → Calls Tryz.prog 19 #[.string ⟨#[97, 32, 45, 32, 98, 32, 42, 32, 99]⟩] w (OutPost w (.tree T1)) := fun w hg => by
    have := Expr_any s1 w hg (by decide)
    rw [parse1] at this
    exact this
  have h2 : ∀ w, Gl w → Calls Tryz.prog 20 #[.string ⟨#[120, 44, 32, 111, 107, 32, 58, 61, 32, 97, 32, 43, 32, 98]⟩] w (OutPost w (.wrong 30 11 ⟨#[43]⟩)) := fun w hg => by
    have := Statements_any s2 w hg (by decide)
    rw [parse2] at this
    exact this
  have h3 : ∀ w, Gl w → Calls Tryz.prog 21 #[.string ⟨#[102, 117, 110, 99, 32, 109, 97, 105, 110, 40, 41, 32, 123, 32, 102, 40, 41, 32, 125]⟩] w (OutPost w (.tree T3)) := fun w hg => by
    have := Program_any s3 w hg (by decide)
    rw [parse3] at this
    exact this
  have H1 := Lib.hid (h1 w hgl)
  have H2 := Lib.hid h2
  have H3 := Lib.hid h3
  have HG := Lib.hid hgl
  clear h1 h2 h3 hgl
  go_enter Tryz.func7, Tryz.ntmps7
  go_wp2_with (go_at_call 19; refine H1.out.mono ?_; rintro e wa ⟨hba, va, rfl, hva⟩; obtain ⟨ka, oa, capa, rfl, hka, hca⟩ := tree1_cells (LiesA.lies hva); have HA := Lib.hid (And.intro hba (And.intro hka hca)); clear hba hva hka hca)
  have hb1 := HA.out.1.trans (((Below.refl wa.heap.size wa).alloc (Nat.le_refl _) (.cells #[.int .i64 51, .string ⟨#[45]⟩, .int .i64 0, .int .i64 2, .slice (some ⟨ka, oa, none⟩) 2 capa] 25)).mono HA.out.1.size)
  have HB1 := Lib.hid hb1
  clear hb1
  go_at_call 20
  refine (H2.out _ (HG.out.up HB1.out)).mono ?_
  rintro e wb ⟨hbb, bw, rfl, hbl, hww⟩
  have hb2 := HB1.out.trans ((hbb.trans (((Below.refl wb.heap.size wb).alloc (Nat.le_refl _) (.cells #[.int .i64 0, .string ⟨#[]⟩, .int .i64 0, .int .i64 0, .slice none 0 0] 25)).mono hbb.size)).mono HB1.out.size)
  have hbw := World.block_lt_of_cell? wb _ hww.1
  have HB2 := Lib.hid (And.intro hb2 (And.intro hbb (And.intro hww hbw)))
  clear hb2 hbb hbl hww hbw
  unfold zeroNdV
  go_wp2_with fail
  go_at_call 21
  refine (H3.out _ (HG.out.up HB2.out.1)).mono ?_
  rintro e wc ⟨hbc, vc, rfl, hvc⟩
  obtain ⟨kc, oc, capc, rfl, hkc, hcc0, hcc1⟩ := tree3_cells (LiesA.lies hvc)
  have hs1 := HB2.out.2.1.size
  have hs2 := hbc.size
  simp only [World.size_alloc] at hs1 hs2
  have e1 : wc.heap[wa.heap.size]? = some (.cells #[.int .i64 51, .string ⟨#[45]⟩, .int .i64 0, .int .i64 2, .slice (some ⟨ka, oa, none⟩) 2 capa] 25 (0, 0)) :=
    (hbc.block _ (by simp only [World.size_alloc]; omega)).trans ((((Below.refl wb.heap.size wb).alloc (Nat.le_refl _) _).block _ (by omega)).trans ((HB2.out.2.1.block _ (by simp only [World.size_alloc]; omega)).trans (heap_alloc_new _ _)))
  have e2 : wc.heap[wb.heap.size]? = some (.cells #[.int .i64 0, .string ⟨#[]⟩, .int .i64 0, .int .i64 0, .slice none 0 0] 25 (0, 0)) :=
    (hbc.block _ (by simp only [World.size_alloc]; omega)).trans (heap_alloc_new _ _)
  have e3 : wc.heap[ka]? = wa.heap[ka]? :=
    (hbc.block _ (by simp only [World.size_alloc]; have := HA.out.2.1; omega)).trans ((((Below.refl wb.heap.size wb).alloc (Nat.le_refl _) _).block _ (by have := HA.out.2.1; omega)).trans ((HB2.out.2.1.block _ (by simp only [World.size_alloc]; have := HA.out.2.1; omega)).trans (((Below.refl wa.heap.size wa).alloc (Nat.le_refl _) _).block _ HA.out.2.1)))
  have e4 : wc.heap[bw]? = wb.heap[bw]? :=
    (hbc.block _ (by simp only [World.size_alloc]; have := HB2.out.2.2.2; omega)).trans (((Below.refl wb.heap.size wb).alloc (Nat.le_refl _) _).block _ HB2.out.2.2.2)
  obtain ⟨W3, hW3⟩ : ∃ W3, W3 = wc.alloc (.cells #[.int .i64 1, .string ⟨#[]⟩, .int .i64 0, .int .i64 0, .slice (some ⟨kc, oc, none⟩) 1 capc] 25) := ⟨_, rfl⟩
  have hb3 : Below wc.heap.size wc W3 := by rw [hW3]; exact (Below.refl _ _).alloc (Nat.le_refl _) _
  have e5 : W3.heap[wc.heap.size]? = some (.cells #[.int .i64 1, .string ⟨#[]⟩, .int .i64 0, .int .i64 0, .slice (some ⟨kc, oc, none⟩) 1 capc] 25 (0, 0)) := by rw [hW3]; exact heap_alloc_new _ _
  have e1' := (hb3.block _ (by omega)).trans e1
  have e2' := (hb3.block _ (by omega)).trans e2
  have a0 := cell_of_row W3 _ 0 _ _ _ e1'
  have a1 := cell_of_row W3 _ 1 _ _ _ e1'
  have a3 := cell_of_row W3 _ 3 _ _ _ e1'
  have a4 := cell_of_row W3 _ 4 _ _ _ e1'
  have b0 := cell_of_row W3 _ 0 _ _ _ e2'
  have c0 := cell_of_row W3 _ 0 _ _ _ e5
  have c4 := cell_of_row W3 _ 4 _ _ _ e5
  have k1 : W3.cell? ⟨ka, oa + 5 + 1, none⟩ = some (.string ⟨#[42]⟩) := (World.cell?_of_block (w := wa) (a := ⟨ka, oa + 5 + 1, none⟩) ((hb3.block ka (by have := HA.out.2.1; omega)).trans e3)).trans HA.out.2.2
  have d0 : W3.cell? ⟨kc, oc, none⟩ = some (.int .i64 5) := (World.cell?_of_block (w := wc) (a := ⟨kc, oc, none⟩) (hb3.block _ hkc)).trans hcc0
  have d1 : W3.cell? ⟨kc, oc + 1, none⟩ = some (.string ⟨#[109, 97, 105, 110]⟩) := (World.cell?_of_block (w := wc) (a := ⟨kc, oc + 1, none⟩) (hb3.block _ hkc)).trans hcc1
  have hwr := wrongAt_block HB2.out.2.2.1 ((hb3.block bw (by have := HB2.out.2.2.2; omega)).trans e4)
  have hbf := HB2.out.1.trans ((hbc.trans (hb3.mono (by simp only [World.size_alloc]; omega))).mono HB2.out.1.size)
  simp at a0 a1 a3 a4 b0 c0 c4
  have hsz3 : wc.heap.size < W3.heap.size := by rw [hW3, World.size_alloc]; omega
  have HF := Lib.hid (And.intro hwr (And.intro hbf (And.intro e2' (And.intro e5 (And.intro d0 (And.intro d1 (And.intro hsz3 hkc)))))))
  clear hsz3 d0 d1 b0 c0 c4 e1 e2 e3 e4 e5 e1' e2' hb3 hwr hbf hbc hvc hcc0 hcc1
  subst hW3
  go_wp2_with (go_at_call 11; refine (told_hit _ _ _ _ HF.out.1).mono ?_; rintro e wd ⟨rfl, hbd⟩; have hz := HF.out.2.2.2.2.2.2.1; have b0 := cell_of_row wd _ 0 _ _ _ ((hbd.block _ (by omega)).trans HF.out.2.2.1); have c0 := cell_of_row wd _ 0 _ _ _ ((hbd.block _ (by omega)).trans HF.out.2.2.2.1); have c4 := cell_of_row wd _ 4 _ _ _ ((hbd.block _ (by omega)).trans HF.out.2.2.2.1); have d0 := (World.cell?_of_block (a := ⟨kc, oc, none⟩) (hbd.block kc (by have := HF.out.2.2.2.2.2.2.2; omega))).trans HF.out.2.2.2.2.1; have d1 := (World.cell?_of_block (a := ⟨kc, oc + 1, none⟩) (hbd.block kc (by have := HF.out.2.2.2.2.2.2.2; omega))).trans HF.out.2.2.2.2.2.1; simp at b0 c0 c4; have HBD := Lib.hid hbd; clear hbd hz)
  go_ret
  exact ⟨rfl, HF.out.2.1.trans (HBD.out.mono HF.out.2.1.size)⟩
end Go.Proofs.YtokhfhibdeneeaaGreatDoor
