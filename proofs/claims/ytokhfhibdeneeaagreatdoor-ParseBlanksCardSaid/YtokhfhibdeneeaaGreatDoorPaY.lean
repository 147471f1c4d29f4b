/- labelled. -/
import Derived.Test.YtokhfhibdeneeaaGreatDoorPaX
import Derived.Test.YtokhfhibdeneeaaGreatDoorMLiesP
namespace Go.Proofs.YtokhfhibdeneeaaGreatDoor
open Go.RowKit
section
variable {E : Env} {M : Rm} {w0 W w1 W' : World} {rows : List Rw} {gs : Option Gv} {ts : List (Nd × Value)} {st s s' : Rs} {K : Kn} {g : Gv}

set_option maxRecDepth 100000 in
set_option maxHeartbeats 16000000 in
theorem labelled_rd (hE : EnvOk E M) (hK : KOK E M K) (hix : IndexOk E M K) (h : RdAt E M s W) {label : List UInt8} {at0 : Int} (hl0 : (bs label).size ≤ 140737488351232) (ha0 : okI at0) (hne : labelledR E K label at0 s ≠ .out) :
 Calls Tryz.prog 143 #[.pointer (some ⟨M.bp, 0, none⟩), .string (bs label), .int .i64 at0] W (Post E M VNd W (labelledR E K label at0 s)) := by
 obtain ⟨R, HR⟩ : ∃ R, Hid (labelledR E K label at0 s = R) := ⟨_, rfl⟩
 have hneR : R ≠ .out := by rw [← HR.out]; exact hne
 clear hne
 rw [HR.out]
 have HNE := Lib.hid hneR
 have HSP0 := HR
 unfold labelledR at HSP0
 have HS1 := Lib.hid ((St.init h).pz)
 have a1R := F5 HS1 M0
 have hfi0 := fieldTok0
 have hfi1 := fieldTok1
 have hfi2 := fieldTok2
 have hfn0 := fieldNd0
 have hfn1 := fieldNd1
 obtain ⟨i0, hi0, hz0, hz1, hz2⟩ := info_parts infoNd
 have hn0 := hE.n
 clear hneR h
 go_enter Tryz.func143, Tryz.ntmps143
 cases hw : isT E s [115, 119, 105, 116, 99, 104] with
 | true =>
  have HSP2 := HSP0; try simp only [hw, reduceIte] at HSP2
  have htk2 : takeS E [115, 119, 105, 116, 99, 104] s = adv s 1 := by rw [takeS, hw]; rfl
  go_wp2_with fail
  go_at_call 86
  refine (take_any hE HS1.rd ⟨#[115, 119, 105, 116, 99, 104]⟩ [115, 119, 105, 116, 99, 104] rfl).mono ?_
  rw [hw]
  rw [htk2]
  rintro e w3 ⟨rfl, hr3, hf3⟩
  clear a1R
  have HS4 := Lib.hid (HS1.go hr3 hf3); try simp only [sz] at HS4
  have a5R := F5 HS4 M0
  clear hr3 hf3
  go_wp2_with fail
  go_at_call 183
  refine Post.use (bind_okR HSP2.out) HNE.out (fun h0 => choice_rd hE hK hix HS4.rd hl0 ha0 h0) (be HS4.fp) ?_
  intro x6 s6 v6 w6 hsp6 hv6 hr6 hf6
  obtain ⟨k6, t6, n6, a6, ks6⟩ := x6
  obtain ⟨A6, cap6, rfl⟩ := VNd.form hv6
  clear a5R
  have HS7 := Lib.hid (HS4.read hr6 hf6 hv6); try simp only [sz] at HS7
  have a8R := F5 HS7 M0
  have HSP6 := Lib.hid hsp6
  clear hsp6 hr6 hf6
  go_wp2_with fail
  have hs9 := (HS7.set5 (.int .i64 k6) (.string t6) (.int .i64 n6) (.int .i64 a6) (.slice A6 ks6.length cap6))
  refine St.fin (slot := 6) rfl hs9 rfl (hs9.bx.tr _ M0) ?_
  exact HSP6.out
 | false =>
 have HSP2 := HSP0; try simp only [hw, sm, reduceIte] at HSP2
 have htk2 : takeS E [115, 119, 105, 116, 99, 104] s = s := by rw [takeS, hw]; rfl
 go_wp2_with fail
 go_at_call 86
 refine (take_any hE HS1.rd ⟨#[115, 119, 105, 116, 99, 104]⟩ [115, 119, 105, 116, 99, 104] rfl).mono ?_
 rw [hw]
 rw [htk2]
 rintro e w3 ⟨rfl, hr3, hf3⟩
 clear a1R
 have HS4 := Lib.hid (HS1.go hr3 hf3); try simp only [sz] at HS4
 have a5R := F5 HS4 M0
 clear hr3 hf3
 go_wp2_with fail
 go_at_call 90
 refine Post.use HSP2.out HNE.out (fun _ => want_any hE HS4.rd ⟨#[102, 111, 114]⟩ [102, 111, 114] rfl) (be HS4.fp) ?_
 intro x6 s6 v6 w6 hsp6 hv6 hr6 hf6
 obtain rfl : v6 = _ := hv6
 clear a5R
 have HS7 := Lib.hid (HS4.go hr6 hf6); try simp only [sz] at HS7
 have a8R := F5 HS7 M0
 have HSP6 := Lib.hid hsp6
 clear hsp6 hr6 hf6
 go_wp2_with fail
 go_at_call 42
 refine (at0_rd hE HS7.rd).mono ?_
 rintro e w9 ⟨rfl, hb9⟩
 clear a8R
 have HS10 := Lib.hid (HS7.below hb9); try simp only [sz] at HS10
 have a11R := F5 HS10 M0
 clear hb9
 go_wp2_with fail
 go_at_call 42
 refine (at1_rd hE HS10.rd).mono ?_
 rintro e w12 ⟨rfl, hb12⟩
 clear a11R
 have HS13 := Lib.hid (((HS10.below hb12).push #[.int .i64 (E.tok s6.i).kind, .string (E.tok s6.i).str, .int .i64 (E.tok s6.i).at_] 46).push #[.int .i64 (E.tok (s6.i + 1)).kind, .string (E.tok (s6.i + 1)).str, .int .i64 (E.tok (s6.i + 1)).at_] 46); try simp only [sz] at HS13
 have a14 := J3 (F3 HS13 M0) (F3 HS13 M1) (F5 HS13 M2)
 clear hb12
 go_upto_region 5 with fail
 go_cut [38] (fun t38 wx => t38 = .bool ((cur E s6).kind == 2 && ((cur E s6).text == [95] || (isW (nxt E s6) [44] || isW (nxt E s6) [105, 110]))) ∧ Hid (St E M W [((w12.heap.size + 1), #[.int .i64 (E.tok (s6.i + 1)).kind, .string (E.tok (s6.i + 1)).str, .int .i64 (E.tok (s6.i + 1)).at_], 46), (w12.heap.size, #[.int .i64 (E.tok s6.i).kind, .string (E.tok s6.i).str, .int .i64 (E.tok s6.i).at_], 46), (W.heap.size, #[.int .i64 0, .string ⟨#[]⟩, .int .i64 0, .int .i64 0, .slice none 0 0], 25)] none [] s6 wx))
 case first =>
  cases hk : (cur E s6).kind == 2 with
  | true =>
   have hk1 : ((E.tok s6.i).kind == 2) = true := hk
   cases hu : (cur E s6).text == [95] with
   | true =>
    have hu1 : ((E.tok s6.i).str.toList == [95]) = true := str_eq _ _ hu
    go_wp2_with fail
    go_meet
    exact ⟨by rw [hk, hu]; rfl, HS13.out⟩
   | false =>
   have hu1 : ((E.tok s6.i).str.toList == [95]) = false := str_eq _ _ hu
   cases hc : isW (nxt E s6) [44] with
   | true =>
    go_wp2_with fail
    go_at_call 138
    refine (word_tok (E := E) (s6.i + 1) ⟨#[44]⟩ [44] rfl _).mono ?_
    rw [show isW (E.tok (s6.i + 1)) [44] = true from hc]
    rintro e w15 ⟨rfl, hb15⟩
    clear a14
    have HS16 := Lib.hid (HS13.below hb15); try simp only [sz] at HS16
    have a17 := J3 (F3 HS16 M0) (F3 HS16 M1) (F5 HS16 M2)
    clear hb15
    go_wp2_with fail
    go_meet
    exact ⟨by rw [hk, hu, hc]; rfl, HS16.out⟩
   | false =>
   go_wp2_with fail
   go_at_call 138
   refine (word_tok (E := E) (s6.i + 1) ⟨#[44]⟩ [44] rfl _).mono ?_
   rw [show isW (E.tok (s6.i + 1)) [44] = false from hc]
   rintro e w15 ⟨rfl, hb15⟩
   clear a14
   have HS16 := Lib.hid (HS13.below hb15); try simp only [sz] at HS16
   have a17 := J3 (F3 HS16 M0) (F3 HS16 M1) (F5 HS16 M2)
   clear hb15
   cases hi : isW (nxt E s6) [105, 110] with
   | true =>
    go_wp2_with fail
    go_at_call 138
    refine (word_tok (E := E) (s6.i + 1) ⟨#[105, 110]⟩ [105, 110] rfl _).mono ?_
    rw [show isW (E.tok (s6.i + 1)) [105, 110] = true from hi]
    rintro e w18 ⟨rfl, hb18⟩
    clear a17
    have HS19 := Lib.hid (HS16.below hb18); try simp only [sz] at HS19
    have a20 := J3 (F3 HS19 M0) (F3 HS19 M1) (F5 HS19 M2)
    clear hb18
    go_wp2_with fail
    go_meet
    exact ⟨by rw [hk, hu, hc, hi]; rfl, HS19.out⟩
   | false =>
   go_wp2_with fail
   go_at_call 138
   refine (word_tok (E := E) (s6.i + 1) ⟨#[105, 110]⟩ [105, 110] rfl _).mono ?_
   rw [show isW (E.tok (s6.i + 1)) [105, 110] = false from hi]
   rintro e w18 ⟨rfl, hb18⟩
   clear a17
   have HS19 := Lib.hid (HS16.below hb18); try simp only [sz] at HS19
   have a20 := J3 (F3 HS19 M0) (F3 HS19 M1) (F5 HS19 M2)
   clear hb18
   go_wp2_with fail
   go_meet
   exact ⟨by rw [hk, hu, hc, hi]; rfl, HS19.out⟩
  | false =>
  have hk1 : ((E.tok s6.i).kind == 2) = false := hk
  go_wp2_with fail
  go_meet
  exact ⟨by rw [hk]; rfl, HS13.out⟩
 case rest =>
  obtain ⟨rfl, HC0⟩ := hcut
  obtain ⟨b0, hb0⟩ : ∃ b, ((cur E s6).kind == 2 && ((cur E s6).text == [95] || (isW (nxt E s6) [44] || isW (nxt E s6) [105, 110]))) = b := ⟨_, rfl⟩
  rw [hb0]
  have HSP15 := HSP6; try simp only [hb0] at HSP15
  have HB0 := Lib.hid hb0
  clear hb0
  have a16 := J3 (F3 HC0 M0) (F3 HC0 M1) (F5 HC0 M2)
  cases b0 with
  | true =>
   have HSP17 := HSP15; try simp only [reduceIte] at HSP17
   go_wp2_with fail
   go_at_call 184
   refine Post.use HSP17.out HNE.out (fun h0 => item_rd hE HC0.out.rd) (be HC0.out.fp) ?_
   intro x18 s18 v18 w18 hsp18 hv18 hr18 hf18
   obtain ⟨k18, t18, n18, a18, ks18⟩ := x18
   obtain ⟨A18, cap18, rfl⟩ := VNd.form hv18
   clear a16
   have HS19 := Lib.hid (HC0.out.read hr18 hf18 hv18); try simp only [sz] at HS19
   have a20 := J3 (F3 HS19 M0) (F3 HS19 M1) (F5 HS19 M2)
   have HSP18 := Lib.hid hsp18
   clear hsp18 hr18 hf18
   go_wp2_with fail
   go_at_call 145
   refine (none_rd hE HS19.rd).mono ?_
   rintro e w21 ⟨rfl, hb21⟩
   clear a20
   have HS22 := Lib.hid (((HS19.below hb21).push #[.int .i64 k18, .string t18, .int .i64 n18, .int .i64 a18, .slice A18 ks18.length cap18, .int .i64 16, .string ⟨#[]⟩, .int .i64 0, .int .i64 (cur E s18).at_, .slice none 0 0] 25).push #[.int .i64 24, .string (bs label), .int .i64 0, .int .i64 at0, .slice (some ⟨w21.heap.size, 0, none⟩) 2 2] 25); try simp only [sz] at HS22
   have a23 := J4 (F5 HS22 M0) (F3 HS22 M2) (F3 HS22 M3) (F5 HS22 M4)
   clear hb21
   have HSP24 := HSP18; try simp only [bind_assocR, sm, reduceIte] at HSP24
   cases hc : isT E s18 [44] with
   | true =>
    have HSP25 := HSP24; try simp only [hc, reduceIte] at HSP25
    have htk25 : takeS E [44] s18 = adv s18 1 := by rw [takeS, hc]; rfl
    go_wp2_with fail
    go_at_call 86
    refine (take_any hE HS22.rd ⟨#[44]⟩ [44] rfl).mono ?_
    rw [hc]
    rw [htk25]
    rintro e w26 ⟨rfl, hr26, hf26⟩
    clear a23
    have HS27 := Lib.hid (HS22.go hr26 hf26); try simp only [sz] at HS27
    have a28 := J4 (F5 HS27 M0) (F3 HS27 M2) (F3 HS27 M3) (F5 HS27 M4)
    clear hr26 hf26
    go_wp2_with fail
    clear a28
    have hs29 := HS27.drew
    refine wp_region_G [] (fun Wx => Wx.cell? ⟨(w21.heap.size + 1), 4, none⟩ = some (.slice (some ⟨w21.heap.size, 0, none⟩) 2 2)) (by rfl) ?_ (fun hHeld => ?_)
    · exact hs29.a M0 4
    revert hs29 hHeld
    generalize World.drew _ = wd29
    intro hs29 hHeld
    refine tk 0 (h := tk 1 (h := tk 2 (h := ?_)))
    try simp only [nm]
    refine rd1 3 fun KK hKK => ?_
    go_simp
    go_at_call 184
    refine Post.nd HSP25 HNE (fun h0 => item_rd hE hs29.rd) (be hs29.fp) ?_
    intro k30 t30 n30 a30 ks30 s30 A30 cap30 w30 HSP30 hv30 hr30 hf30
    have hs31 := (hs29.read hr30 hf30 hv30); try simp only [sz] at hs31
    clear hs29 hHeld
    refine hKK.out _ _ (hs31.a M0 4) (fun hHeld => ?_)
    clear hKK KK
    refine tk 4 (h := ?_)
    try simp only [nm]
    refine rd1 5 fun KK hKK => ?_
    have q32_0 := hs31.a M1 5
    have y32_0 := hs31.bx.fz M1 5
    have q32_1 := hs31.a M1 6
    have y32_1 := hs31.bx.fz M1 6
    have q32_2 := hs31.a M1 7
    have y32_2 := hs31.bx.fz M1 7
    have q32_3 := hs31.a M1 8
    have y32_3 := hs31.bx.fz M1 8
    have q32_4 := hs31.a M1 9
    have y32_4 := hs31.bx.fz M1 9
    go_simp
    clear q32_0 y32_0 q32_1 y32_1 q32_2 y32_2 q32_3 y32_3 q32_4 y32_4
    have hs33 := (((((hs31.swap.setRow 5 (.int .i64 k30)).setRow 6 (.string t30)).setRow 7 (.int .i64 n30)).setRow 8 (.int .i64 a30)).setRow 9 (.slice A30 ks30.length cap30)); try simp only [sz] at hs33
    clear hs31
    revert hs33
    generalize World.setCell _ _ _ = wq34
    intro hs33
    clear hHeld
    refine hKK.out _ _ (hs33.a M1 4) (fun hHeld => ?_)
    clear hKK KK
    try simp only [nm]
    refine wpAnyG_done (by kernel_rfl) ?_ _
    have HS35 := Lib.hid hs33; try simp only [sz] at HS35
    have a36 := J4 (F5 HS35 M1) (F3 HS35 M2) (F3 HS35 M3) (F5 HS35 M4)
    clear hs33
    go_wp2_with fail
    go_at_call 90
    refine Post.use HSP30.out HNE.out (fun _ => want_any hE HS35.rd ⟨#[105, 110]⟩ [105, 110] rfl) (be HS35.fp) ?_
    intro x37 s37 v37 w37 hsp37 hv37 hr37 hf37
    obtain rfl : v37 = _ := hv37
    clear a36
    have HS38 := Lib.hid (HS35.go hr37 hf37); try simp only [sz] at HS38
    have a39 := J4 (F5 HS38 M1) (F3 HS38 M2) (F3 HS38 M3) (F5 HS38 M4)
    have HSP37 := Lib.hid hsp37
    clear hsp37 hr37 hf37 a39
    have HS40 := Lib.hid ((HS38.swap.swap.growN (xs := [(.mk k18 t18 n18 a18 ks18, .agg #[.int .i64 k18, .string t18, .int .i64 n18, .int .i64 a18, .slice A18 ks18.length cap18]), (.mk k30 t30 n30 a30 ks30, .agg #[.int .i64 k30, .string t30, .int .i64 n30, .int .i64 a30, .slice A30 ks30.length cap30])]) rfl (memC M1 (memC M0 (mem0 _))) rfl (by decide) ok_lit ok_lit ha0 hl0).retire.retire); try simp only [sz] at HS40
    have a41R := F5 HS40 M0
    have gg41 := HS40.gcells
    go_wp2_with fail
    clear a41R gg41
    have hs42 := HS40.drew
    refine wp_region_G [9] (fun Wx => Wx.cell? ⟨(w21.heap.size + 1), 4, none⟩ = some (.slice (some ⟨w21.heap.size, 0, none⟩) 2 2)) (by rfl) ?_ (fun hHeld => ?_)
    · exact hs42.gcells.2.2.2.2.1
    revert hs42 hHeld
    generalize World.drew _ = wd42
    intro hs42 hHeld
    refine tk 0 (h := tk 1 (h := tk 2 (h := tk 4 (h := ?_))))
    try simp only [nm]
    refine rd1 3 fun KK hKK => ?_
    go_simp
    go_at_call 185
    refine Post.nd HSP37 HNE (fun h0 => inHead_rd hE hK hs42.rd h0) (be hs42.fp) ?_
    intro k43 t43 n43 a43 ks43 s43 A43 cap43 w43 HSP43 hv43 hr43 hf43
    have hs44 := (hs42.read hr43 hf43 hv43); try simp only [sz] at hs44
    clear hs42 hHeld
    refine hKK.out _ _ (hs44.gcells.2.2.2.2.1) (fun hHeld => ?_)
    clear hKK KK
    try simp only [nm]
    refine rd1 5 fun KK hKK => ?_
    go_simp
    go_at_call 140
    refine Post.nd HSP43 HNE (fun h0 => block_rd hE hK hs44.rd h0) (be hs44.fp) ?_
    intro k45 t45 n45 a45 ks45 s45 A45 cap45 w45 HSP45 hv45 hr45 hf45
    have hs46 := (hs44.read hr45 hf45 hv45); try simp only [sz] at hs46
    clear hs44 hHeld
    refine hKK.out _ _ (hs46.gcells.2.2.2.2.1) (fun hHeld => ?_)
    clear hKK KK
    try simp only [nm]
    refine rd1 6 fun KK hKK => ?_
    go_simp
    have hs47 := (hs46.push #[.int .i64 k43, .string t43, .int .i64 n43, .int .i64 a43, .slice A43 ks43.length cap43, .int .i64 k45, .string t45, .int .i64 n45, .int .i64 a45, .slice A45 ks45.length cap45] 25); try simp only [sz] at hs47
    clear hs46
    revert hs47
    generalize World.alloc _ _ = wq48
    intro hs47
    clear hHeld
    refine hKK.out _ _ (hs47.gcells.2.2.2.2.1) (fun hHeld => ?_)
    clear hKK KK
    try simp only [nm]
    refine rd1 7 fun KK hKK => ?_
    refine apl 57 62 hs47 M0 2 (m := 2) (h := ?_)
    intro b49 capb49 w49 ho49 hg49 hb49 hbl49
    obtain ⟨he49, ef49, n449, nf49, hne49, hbox49, hlen49⟩ := hs47.newElem2 rfl ho49 hg49 hb49
    obtain ⟨e49_0, e49_1, e49_2, e49_3, e49_4, e49_5, e49_6, e49_7, e49_8, e49_9⟩ := he49
    have hnx49 : ((w21.heap.size + 1) = b49) = False := by simpa using fun e => hne49 e.symm
    have hny49 : (b49 = (w21.heap.size + 1)) = False := by simpa using hne49
    have HSF49 := Lib.hid (And.intro hs47 (And.intro ho49 (And.intro hg49 (And.intro hb49 (And.intro hbox49 hlen49)))))
    clear hs47 ho49 hg49 hb49 hHeld
    refine hKK.out _ _ (n449) (fun hHeld => ?_)
    clear hKK KK
    refine tk 8 (h := ?_)
    try simp only [nm]
    refine rl1 9 fun KK hKK => ?_
    go_simp
    clear hHeld
    refine hKK.out _ _ ?_
    clear hKK KK
    try simp only [nm]
    refine wpAny_done (by kernel_rfl) ?_ _
    have hA49 := AppTo.whole (lo := W.heap.size) HSF49.out.2.1 HSF49.out.2.2.2.2.1 (fun e => hne49 e.symm)
    have HS50 := Lib.hid (HSF49.out.1.appendedN (m := 2) (N := 2) (zs := [.int .i64 k43, .string t43, .int .i64 n43, .int .i64 a43, .slice A43 ks43.length cap43, .int .i64 k45, .string t45, .int .i64 n45, .int .i64 a45, .slice A45 ks45.length cap45]) rfl rfl HSF49.out.2.1 HSF49.out.2.2.1 HSF49.out.2.2.2.1 (ys := [(.mk k43 t43 n43 a43 ks43, .agg #[.int .i64 k43, .string t43, .int .i64 n43, .int .i64 a43, .slice A43 ks43.length cap43]), (.mk k45 t45 n45 a45 ks45, .agg #[.int .i64 k45, .string t45, .int .i64 n45, .int .i64 a45, .slice A45 ks45.length cap45])]) (memC M1 (memC M0 (mem0 _))) hA49 rfl); try simp only at HS50
    have a51R := F5 HS50 M1
    have gg51 := HS50.gcells
    go_wp2_with fail
    have hs52 := (HS50.retire.set5 (.int .i64 24) (.string (bs label)) (.int .i64 0) (.int .i64 at0) (.slice (some ⟨b49, 0, none⟩) (2 + 2) capb49)).grown
    refine St.fin (slot := 6) rfl hs52 rfl (hs52.bx.tr _ M0) ?_
    exact HSP45.out
   | false =>
   have HSP25 := HSP24; try simp only [hc, sm, reduceIte] at HSP25
   have htk25 : takeS E [44] s18 = s18 := by rw [takeS, hc]; rfl
   go_wp2_with fail
   go_at_call 86
   refine (take_any hE HS22.rd ⟨#[44]⟩ [44] rfl).mono ?_
   rw [hc]
   rw [htk25]
   rintro e w26 ⟨rfl, hr26, hf26⟩
   clear a23
   have HS27 := Lib.hid (HS22.go hr26 hf26); try simp only [sz] at HS27
   have a28 := J4 (F5 HS27 M0) (F3 HS27 M2) (F3 HS27 M3) (F5 HS27 M4)
   clear hr26 hf26
   have HSP29 := HSP25; try simp only [Rr.bind_ok, sm, reduceIte] at HSP29
   clear a28
   have HS31 := Lib.hid (HS27.tree (t := .mk 16 ⟨#[]⟩ 0 (cur E s18).at_ []) (v := .agg #[.int .i64 16, .string ⟨#[]⟩, .int .i64 0, .int .i64 (cur E s18).at_, .slice none 0 0]) (LiesP.leaf ok_lit ok_lit (hE.at_ _) (by decide))); try simp only [sz] at HS31
   have a32 := J4 (F5 HS31 M0) (F3 HS31 M2) (F3 HS31 M3) (F5 HS31 M4)
   go_wp2_with fail
   go_at_call 90
   refine Post.use HSP29.out HNE.out (fun _ => want_any hE HS31.rd ⟨#[105, 110]⟩ [105, 110] rfl) (be HS31.fp) ?_
   intro x33 s33 v33 w33 hsp33 hv33 hr33 hf33
   obtain rfl : v33 = _ := hv33
   clear a32
   have HS34 := Lib.hid (HS31.go hr33 hf33); try simp only [sz] at HS34
   have a35N := F5 HS34 M0
   have a35X := F3 HS34 M2
   have a35T := F3 HS34 M3
   have a35R := F5 HS34 M4
   have HSP33 := Lib.hid hsp33
   clear hsp33 hr33 hf33 a35N a35X a35T a35R
   have HS36 := Lib.hid ((HS34.swap.growN (xs := [(.mk k18 t18 n18 a18 ks18, .agg #[.int .i64 k18, .string t18, .int .i64 n18, .int .i64 a18, .slice A18 ks18.length cap18]), (.mk 16 ⟨#[]⟩ 0 (cur E s18).at_ [], .agg #[.int .i64 16, .string ⟨#[]⟩, .int .i64 0, .int .i64 (cur E s18).at_, .slice none 0 0])]) rfl (memC M1 (memC M0 (mem0 _))) rfl (by decide) ok_lit ok_lit ha0 hl0).retire.retire); try simp only [sz] at HS36
   have a37R := F5 HS36 M0
   have gg37 := HS36.gcells
   go_wp2_with fail
   clear a37R gg37
   have hs38 := HS36.drew
   refine wp_region_G [9] (fun Wx => Wx.cell? ⟨(w21.heap.size + 1), 4, none⟩ = some (.slice (some ⟨w21.heap.size, 0, none⟩) 2 2)) (by rfl) ?_ (fun hHeld => ?_)
   · exact hs38.gcells.2.2.2.2.1
   revert hs38 hHeld
   generalize World.drew _ = wd38
   intro hs38 hHeld
   refine tk 0 (h := tk 1 (h := tk 2 (h := tk 4 (h := ?_))))
   try simp only [nm]
   refine rd1 3 fun KK hKK => ?_
   go_simp
   go_at_call 185
   refine Post.nd HSP33 HNE (fun h0 => inHead_rd hE hK hs38.rd h0) (be hs38.fp) ?_
   intro k39 t39 n39 a39 ks39 s39 A39 cap39 w39 HSP39 hv39 hr39 hf39
   have hs40 := (hs38.read hr39 hf39 hv39); try simp only [sz] at hs40
   clear hs38 hHeld
   refine hKK.out _ _ (hs40.gcells.2.2.2.2.1) (fun hHeld => ?_)
   clear hKK KK
   try simp only [nm]
   refine rd1 5 fun KK hKK => ?_
   go_simp
   go_at_call 140
   refine Post.nd HSP39 HNE (fun h0 => block_rd hE hK hs40.rd h0) (be hs40.fp) ?_
   intro k41 t41 n41 a41 ks41 s41 A41 cap41 w41 HSP41 hv41 hr41 hf41
   have hs42 := (hs40.read hr41 hf41 hv41); try simp only [sz] at hs42
   clear hs40 hHeld
   refine hKK.out _ _ (hs42.gcells.2.2.2.2.1) (fun hHeld => ?_)
   clear hKK KK
   try simp only [nm]
   refine rd1 6 fun KK hKK => ?_
   go_simp
   have hs43 := (hs42.push #[.int .i64 k39, .string t39, .int .i64 n39, .int .i64 a39, .slice A39 ks39.length cap39, .int .i64 k41, .string t41, .int .i64 n41, .int .i64 a41, .slice A41 ks41.length cap41] 25); try simp only [sz] at hs43
   clear hs42
   revert hs43
   generalize World.alloc _ _ = wq44
   intro hs43
   clear hHeld
   refine hKK.out _ _ (hs43.gcells.2.2.2.2.1) (fun hHeld => ?_)
   clear hKK KK
   try simp only [nm]
   refine rd1 7 fun KK hKK => ?_
   refine apl 57 62 hs43 M0 2 (m := 2) (h := ?_)
   intro b45 capb45 w45 ho45 hg45 hb45 hbl45
   obtain ⟨he45, ef45, n445, nf45, hne45, hbox45, hlen45⟩ := hs43.newElem2 rfl ho45 hg45 hb45
   obtain ⟨e45_0, e45_1, e45_2, e45_3, e45_4, e45_5, e45_6, e45_7, e45_8, e45_9⟩ := he45
   have hnx45 : ((w21.heap.size + 1) = b45) = False := by simpa using fun e => hne45 e.symm
   have hny45 : (b45 = (w21.heap.size + 1)) = False := by simpa using hne45
   have HSF45 := Lib.hid (And.intro hs43 (And.intro ho45 (And.intro hg45 (And.intro hb45 (And.intro hbox45 hlen45)))))
   clear hs43 ho45 hg45 hb45 hHeld
   refine hKK.out _ _ (n445) (fun hHeld => ?_)
   clear hKK KK
   refine tk 8 (h := ?_)
   try simp only [nm]
   refine rl1 9 fun KK hKK => ?_
   go_simp
   clear hHeld
   refine hKK.out _ _ ?_
   clear hKK KK
   try simp only [nm]
   refine wpAny_done (by kernel_rfl) ?_ _
   have hA45 := AppTo.whole (lo := W.heap.size) HSF45.out.2.1 HSF45.out.2.2.2.2.1 (fun e => hne45 e.symm)
   have HS46 := Lib.hid (HSF45.out.1.appendedN (m := 2) (N := 2) (zs := [.int .i64 k39, .string t39, .int .i64 n39, .int .i64 a39, .slice A39 ks39.length cap39, .int .i64 k41, .string t41, .int .i64 n41, .int .i64 a41, .slice A41 ks41.length cap41]) rfl rfl HSF45.out.2.1 HSF45.out.2.2.1 HSF45.out.2.2.2.1 (ys := [(.mk k39 t39 n39 a39 ks39, .agg #[.int .i64 k39, .string t39, .int .i64 n39, .int .i64 a39, .slice A39 ks39.length cap39]), (.mk k41 t41 n41 a41 ks41, .agg #[.int .i64 k41, .string t41, .int .i64 n41, .int .i64 a41, .slice A41 ks41.length cap41])]) (memC M1 (memC M0 (mem0 _))) hA45 rfl); try simp only at HS46
   have a47R := F5 HS46 M1
   have gg47 := HS46.gcells
   go_wp2_with fail
   have hs48 := (HS46.retire.set5 (.int .i64 24) (.string (bs label)) (.int .i64 0) (.int .i64 at0) (.slice (some ⟨b45, 0, none⟩) (2 + 2) capb45)).grown
   refine St.fin (slot := 6) rfl hs48 rfl (hs48.bx.tr _ M0) ?_
   exact HSP41.out
  | false =>
  have HSP17 := HSP15; try simp only [Bool.false_eq_true, reduceIte] at HSP17
  go_wp2_with fail
  go_at_call 145
  refine (none_rd hE HC0.out.rd).mono ?_
  rintro e w18 ⟨rfl, hb18⟩
  clear a16
  have HS19 := Lib.hid (((HC0.out.below hb18).push #[.int .i64 16, .string ⟨#[]⟩, .int .i64 0, .int .i64 (cur E s6).at_, .slice none 0 0] 25).push #[.int .i64 23, .string (bs label), .int .i64 0, .int .i64 at0, .slice (some ⟨w18.heap.size, 0, none⟩) 1 1] 25); try simp only [sz] at HS19
  have a20 := J5 (F5 HS19 M0) (F5 HS19 M1) (F3 HS19 M2) (F3 HS19 M3) (F5 HS19 M4)
  clear hb18
  have HSP21 := HSP17; try simp only [bind_assocR, sm, reduceIte] at HSP21
  cases hbr : isT E s6 [123] with
  | true =>
   have HSP22 := HSP21; try simp only [hbr, sm, reduceIte] at HSP22
   go_wp2_with fail
   go_at_call 139
   refine (is_any hE HS19.rd ⟨#[123]⟩ [123] rfl).mono ?_
   rw [hbr]
   rintro e w23 ⟨rfl, hb23⟩
   clear a20
   have HS24 := Lib.hid (HS19.below hb23); try simp only [sz] at HS24
   have a25 := J5 (F5 HS24 M0) (F5 HS24 M1) (F3 HS24 M2) (F3 HS24 M3) (F5 HS24 M4)
   clear hb23
   have HSP26 := HSP22; try simp only [Rr.bind_ok, sm, reduceIte] at HSP26
   clear a25
   have HS28 := Lib.hid (HS24.tree (t := .mk 16 ⟨#[]⟩ 0 (cur E s6).at_ []) (v := .agg #[.int .i64 16, .string ⟨#[]⟩, .int .i64 0, .int .i64 (cur E s6).at_, .slice none 0 0]) (LiesP.leaf ok_lit ok_lit (hE.at_ _) (by decide))); try simp only [sz] at HS28
   have a29 := J5 (F5 HS28 M0) (F5 HS28 M1) (F3 HS28 M2) (F3 HS28 M3) (F5 HS28 M4)
   clear a29
   have HS30 := Lib.hid ((HS28.swap.growN (xs := [(.mk 16 ⟨#[]⟩ 0 (cur E s6).at_ [], .agg #[.int .i64 16, .string ⟨#[]⟩, .int .i64 0, .int .i64 (cur E s6).at_, .slice none 0 0])]) rfl (memC M0 (mem0 _)) rfl (by decide) ok_lit ok_lit ha0 hl0).retire.retire); try simp only [sz] at HS30
   have a31R := F5 HS30 M0
   have gg31 := HS30.gcells
   go_wp2_with fail
   clear a31R gg31
   have hs32 := HS30.drew
   refine wp_region_G [7] (fun Wx => Wx.cell? ⟨(w18.heap.size + 1), 4, none⟩ = some (.slice (some ⟨w18.heap.size, 0, none⟩) 1 1)) (by rfl) ?_ (fun hHeld => ?_)
   · exact hs32.gcells.2.2.2.2.1
   revert hs32 hHeld
   generalize World.drew _ = wd32
   intro hs32 hHeld
   refine tk 0 (h := tk 1 (h := tk 2 (h := ?_)))
   try simp only [nm]
   refine rd1 3 fun KK hKK => ?_
   go_simp
   go_at_call 140
   refine Post.nd HSP26 HNE (fun h0 => block_rd hE hK hs32.rd h0) (be hs32.fp) ?_
   intro k33 t33 n33 a33 ks33 s33 A33 cap33 w33 HSP33 hv33 hr33 hf33
   have hs34 := (hs32.read hr33 hf33 hv33); try simp only [sz] at hs34
   clear hs32 hHeld
   refine hKK.out _ _ (hs34.gcells.2.2.2.2.1) (fun hHeld => ?_)
   clear hKK KK
   try simp only [nm]
   refine rd1 4 fun KK hKK => ?_
   go_simp
   have hs35 := (hs34.pn k33 t33 n33 a33 (.slice A33 ks33.length cap33)); try simp only [sz] at hs35
   clear hs34
   revert hs35
   generalize World.alloc _ _ = wq36
   intro hs35
   clear hHeld
   refine hKK.out _ _ (hs35.gcells.2.2.2.2.1) (fun hHeld => ?_)
   clear hKK KK
   try simp only [nm]
   refine rd1 5 fun KK hKK => ?_
   refine apl 81 84 hs35 M0 1 (h := ?_)
   intro b37 capb37 w37 ho37 hg37 hb37 hbl37
   obtain ⟨he37, ef37, n437, nf37, hne37, hbox37, hlen37⟩ := hs35.newElem rfl ho37 hg37 hb37
   obtain ⟨e37_0, e37_1, e37_2, e37_3, e37_4⟩ := he37
   have hnx37 : ((w18.heap.size + 1) = b37) = False := by simpa using fun e => hne37 e.symm
   have hny37 : (b37 = (w18.heap.size + 1)) = False := by simpa using hne37
   have HSF37 := Lib.hid (And.intro hs35 (And.intro ho37 (And.intro hg37 (And.intro hb37 (And.intro hbox37 hlen37)))))
   clear hs35 ho37 hg37 hb37 hHeld
   refine hKK.out _ _ (n437) (fun hHeld => ?_)
   clear hKK KK
   refine tk 6 (h := ?_)
   try simp only [nm]
   refine rl1 7 fun KK hKK => ?_
   go_simp
   clear hHeld
   refine hKK.out _ _ ?_
   clear hKK KK
   try simp only [nm]
   refine wpAny_done (by kernel_rfl) ?_ _
   have hA37 := AppTo.whole (lo := W.heap.size) HSF37.out.2.1 HSF37.out.2.2.2.2.1 (fun e => hne37 e.symm)
   have HS38 := Lib.hid (HSF37.out.1.appendedN (m := 1) (N := 1) (zs := [.int .i64 k33, .string t33, .int .i64 n33, .int .i64 a33, .slice A33 ks33.length cap33]) rfl rfl HSF37.out.2.1 HSF37.out.2.2.1 HSF37.out.2.2.2.1 (ys := [(.mk k33 t33 n33 a33 ks33, .agg #[.int .i64 k33, .string t33, .int .i64 n33, .int .i64 a33, .slice A33 ks33.length cap33])]) (memC M0 (mem0 _)) hA37 rfl); try simp only at HS38
   have a39 := J2 (F5 HS38 M0) (F5 HS38 M1)
   have gg39 := HS38.gcells
   go_wp2_with fail
   have hs40 := (HS38.retire.set5 (.int .i64 23) (.string (bs label)) (.int .i64 0) (.int .i64 at0) (.slice (some ⟨b37, 0, none⟩) (1 + 1) capb37)).grown
   refine St.fin (slot := 6) rfl hs40 rfl (hs40.bx.tr _ M0) ?_
   exact HSP33.out
  | false =>
  have HSP22 := HSP21; try simp only [hbr, sm, reduceIte] at HSP22
  go_wp2_with fail
  go_at_call 139
  refine (is_any hE HS19.rd ⟨#[123]⟩ [123] rfl).mono ?_
  rw [hbr]
  rintro e w23 ⟨rfl, hb23⟩
  clear a20
  have HS24 := Lib.hid (HS19.below hb23); try simp only [sz] at HS24
  have a25 := J5 (F5 HS24 M0) (F5 HS24 M1) (F3 HS24 M2) (F3 HS24 M3) (F5 HS24 M4)
  clear hb23
  go_wp2_with fail
  clear a25
  have hs26 := HS24.drew
  refine wp_region_G [] (fun Wx => Wx.cell? ⟨(w18.heap.size + 1), 4, none⟩ = some (.slice (some ⟨w18.heap.size, 0, none⟩) 1 1)) (by rfl) ?_ (fun hHeld => ?_)
  · exact hs26.a M0 4
  revert hs26 hHeld
  generalize World.drew _ = wd26
  intro hs26 hHeld
  refine tk 0 (h := tk 1 (h := tk 2 (h := ?_)))
  try simp only [nm]
  refine rd1 3 fun KK hKK => ?_
  go_simp
  go_at_call 185
  refine Post.nd HSP22 HNE (fun h0 => inHead_rd hE hK hs26.rd h0) (be hs26.fp) ?_
  intro k27 t27 n27 a27 ks27 s27 A27 cap27 w27 HSP27 hv27 hr27 hf27
  have hs28 := (hs26.read hr27 hf27 hv27); try simp only [sz] at hs28
  clear hs26 hHeld
  refine hKK.out _ _ (hs28.a M0 4) (fun hHeld => ?_)
  clear hKK KK
  refine tk 4 (h := ?_)
  try simp only [nm]
  refine rd1 5 fun KK hKK => ?_
  have q29_0 := hs28.a M1 0
  have y29_0 := hs28.bx.fz M1 0
  have q29_1 := hs28.a M1 1
  have y29_1 := hs28.bx.fz M1 1
  have q29_2 := hs28.a M1 2
  have y29_2 := hs28.bx.fz M1 2
  have q29_3 := hs28.a M1 3
  have y29_3 := hs28.bx.fz M1 3
  have q29_4 := hs28.a M1 4
  have y29_4 := hs28.bx.fz M1 4
  go_simp
  clear q29_0 y29_0 q29_1 y29_1 q29_2 y29_2 q29_3 y29_3 q29_4 y29_4
  have hs30 := (((((hs28.swap.setRow 0 (.int .i64 k27)).setRow 1 (.string t27)).setRow 2 (.int .i64 n27)).setRow 3 (.int .i64 a27)).setRow 4 (.slice A27 ks27.length cap27)); try simp only [sz] at hs30
  clear hs28
  revert hs30
  generalize World.setCell _ _ _ = wq31
  intro hs30
  clear hHeld
  refine hKK.out _ _ (hs30.a M1 4) (fun hHeld => ?_)
  clear hKK KK
  try simp only [nm]
  refine wpAnyG_done (by kernel_rfl) ?_ _
  have HS32 := Lib.hid hs30; try simp only [sz] at HS32
  have a33 := J5 (F5 HS32 M0) (F5 HS32 M1) (F3 HS32 M2) (F3 HS32 M3) (F5 HS32 M4)
  clear hs30 a33
  have HS34 := Lib.hid ((HS32.swap.swap.growN (xs := [(.mk k27 t27 n27 a27 ks27, .agg #[.int .i64 k27, .string t27, .int .i64 n27, .int .i64 a27, .slice A27 ks27.length cap27])]) rfl (memC M0 (mem0 _)) rfl (by decide) ok_lit ok_lit ha0 hl0).retire.retire); try simp only [sz] at HS34
  have a35R := F5 HS34 M0
  have gg35 := HS34.gcells
  go_wp2_with fail
  clear a35R gg35
  have hs36 := HS34.drew
  refine wp_region_G [7] (fun Wx => Wx.cell? ⟨(w18.heap.size + 1), 4, none⟩ = some (.slice (some ⟨w18.heap.size, 0, none⟩) 1 1)) (by rfl) ?_ (fun hHeld => ?_)
  · exact hs36.gcells.2.2.2.2.1
  revert hs36 hHeld
  generalize World.drew _ = wd36
  intro hs36 hHeld
  refine tk 0 (h := tk 1 (h := tk 2 (h := ?_)))
  try simp only [nm]
  refine rd1 3 fun KK hKK => ?_
  go_simp
  go_at_call 140
  refine Post.nd HSP27 HNE (fun h0 => block_rd hE hK hs36.rd h0) (be hs36.fp) ?_
  intro k37 t37 n37 a37 ks37 s37 A37 cap37 w37 HSP37 hv37 hr37 hf37
  have hs38 := (hs36.read hr37 hf37 hv37); try simp only [sz] at hs38
  clear hs36 hHeld
  refine hKK.out _ _ (hs38.gcells.2.2.2.2.1) (fun hHeld => ?_)
  clear hKK KK
  try simp only [nm]
  refine rd1 4 fun KK hKK => ?_
  go_simp
  have hs39 := (hs38.pn k37 t37 n37 a37 (.slice A37 ks37.length cap37)); try simp only [sz] at hs39
  clear hs38
  revert hs39
  generalize World.alloc _ _ = wq40
  intro hs39
  clear hHeld
  refine hKK.out _ _ (hs39.gcells.2.2.2.2.1) (fun hHeld => ?_)
  clear hKK KK
  try simp only [nm]
  refine rd1 5 fun KK hKK => ?_
  refine apl 81 84 hs39 M0 1 (h := ?_)
  intro b41 capb41 w41 ho41 hg41 hb41 hbl41
  obtain ⟨he41, ef41, n441, nf41, hne41, hbox41, hlen41⟩ := hs39.newElem rfl ho41 hg41 hb41
  obtain ⟨e41_0, e41_1, e41_2, e41_3, e41_4⟩ := he41
  have hnx41 : ((w18.heap.size + 1) = b41) = False := by simpa using fun e => hne41 e.symm
  have hny41 : (b41 = (w18.heap.size + 1)) = False := by simpa using hne41
  have HSF41 := Lib.hid (And.intro hs39 (And.intro ho41 (And.intro hg41 (And.intro hb41 (And.intro hbox41 hlen41)))))
  clear hs39 ho41 hg41 hb41 hHeld
  refine hKK.out _ _ (n441) (fun hHeld => ?_)
  clear hKK KK
  refine tk 6 (h := ?_)
  try simp only [nm]
  refine rl1 7 fun KK hKK => ?_
  go_simp
  clear hHeld
  refine hKK.out _ _ ?_
  clear hKK KK
  try simp only [nm]
  refine wpAny_done (by kernel_rfl) ?_ _
  have hA41 := AppTo.whole (lo := W.heap.size) HSF41.out.2.1 HSF41.out.2.2.2.2.1 (fun e => hne41 e.symm)
  have HS42 := Lib.hid (HSF41.out.1.appendedN (m := 1) (N := 1) (zs := [.int .i64 k37, .string t37, .int .i64 n37, .int .i64 a37, .slice A37 ks37.length cap37]) rfl rfl HSF41.out.2.1 HSF41.out.2.2.1 HSF41.out.2.2.2.1 (ys := [(.mk k37 t37 n37 a37 ks37, .agg #[.int .i64 k37, .string t37, .int .i64 n37, .int .i64 a37, .slice A37 ks37.length cap37])]) (memC M0 (mem0 _)) hA41 rfl); try simp only at HS42
  have a43 := J2 (F5 HS42 M0) (F5 HS42 M1)
  have gg43 := HS42.gcells
  go_wp2_with fail
  have hs44 := (HS42.retire.set5 (.int .i64 23) (.string (bs label)) (.int .i64 0) (.int .i64 at0) (.slice (some ⟨b41, 0, none⟩) (1 + 1) capb41)).grown
  refine St.fin (slot := 6) rfl hs44 rfl (hs44.bx.tr _ M0) ?_
  exact HSP37.out

end
end Go.Proofs.YtokhfhibdeneeaaGreatDoor
