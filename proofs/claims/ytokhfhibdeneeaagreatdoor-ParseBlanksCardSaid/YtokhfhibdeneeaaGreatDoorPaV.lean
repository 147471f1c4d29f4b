/- simple. -/
import Derived.Test.YtokhfhibdeneeaaGreatDoorPaT
import Derived.Test.YtokhfhibdeneeaaGreatDoorMLiesP
namespace Go.Proofs.YtokhfhibdeneeaaGreatDoor
open Go.RowKit
section
variable {E : Env} {M : Rm} {w0 W w1 W' : World} {rows : List Rw} {gs : Option Gv} {ts : List (Nd × Value)} {st s s' : Rs} {K : Kn} {g : Gv}
/-- What stands behind the first part of a plain statement. -/
def simpleT (E : Env) (K : Kn) (a : Int) (e : Nd) (s' : Rs) : Rr Nd :=
 if e.kind == 48 then .ok (.mk 30 (bs []) 0 a [e]) s' else
 if !placeB e || !((cur E s').kind == 7) then .bad s'.i else
 if (cur E s').text == [43, 43] || (cur E s').text == [45, 45] then .ok (.mk 34 (cur E s').str 0 a [e]) (adv s' 1) else
 if setsL.any (fun w => (cur E s').text == w) then (K.expr (adv s' 1)).bind fun v s2 => .ok (.mk 20 (cur E s').str 0 a [e, v]) s2 else
 .bad s'.i
theorem sets_any (t : List UInt8) : setsL.any (fun w => t == w) = (t == [61] || (t == [43, 61] || (t == [45, 61] || (t == [42, 61] || (t == [47, 61] || (t == [37, 61] || (t == [38, 61] || (t == [124, 61] || (t == [94, 61] || (t == [60, 60, 61] || t == [62, 62, 61])))))))))) := by
 simp only [setsL, List.any_cons, List.any_nil, Bool.or_false]

set_option maxRecDepth 100000 in
set_option maxHeartbeats 16000000 in
theorem simple_rd (hE : EnvOk E M) (hK : KOK E M K) (hix : IndexOk E M K) (h : RdAt E M s W) (hne : simpleR E K s ≠ .out) :
 Calls Tryz.prog 148 #[.pointer (some ⟨M.bp, 0, none⟩)] W (Post E M VNd W (simpleR E K s)) := by
 obtain ⟨R, HR⟩ : ∃ R, Hid (simpleR E K s = R) := ⟨_, rfl⟩
 have hneR : R ≠ .out := by rw [← HR.out]; exact hne
 clear hne
 rw [HR.out]
 have HNE := Lib.hid hneR
 have HSP0 : Hid (((if isT E s [42] then K.unary s else postR E K s).bind (simpleT E K (E.tok s.i).at_) : Rr Nd) = R) := HR.out
 have HS1 := Lib.hid ((St.init h).pz)
 try simp only [World.size_alloc] at HS1
 have a1R := F5 HS1 M0
 have hfi0 := fieldTok0
 have hfi1 := fieldTok1
 have hfi2 := fieldTok2
 have hfn0 := fieldNd0
 have hfn1 := fieldNd1
 have hn0 := hE.n
 clear hneR h
 go_enter Tryz.func148, Tryz.ntmps148
 go_wp2_with fail
 go_at_call 42
 refine (at0_rd hE HS1.rd).mono ?_
 rintro e w2 ⟨rfl, hb2⟩
 clear a1R
 have HS3 := Lib.hid ((HS1.below hb2).pz); try simp only [sz] at HS3
 have a4 := J2 (F5 HS3 M0) (F5 HS3 M1)
 clear hb2
 obtain ⟨b0, hb0⟩ : ∃ b, isT E s [42] = b := ⟨_, rfl⟩
 go_wp2_with fail
 go_at_call 139
 refine (is_any hE HS3.rd ⟨#[42]⟩ [42] rfl).mono ?_
 rw [hb0]
 rintro e w5 ⟨rfl, hb5⟩
 clear a4
 have HS6 := Lib.hid (HS3.below hb5); try simp only [sz] at HS6
 have a7 := J2 (F5 HS6 M0) (F5 HS6 M1)
 clear hb5
 go_upto_if 10 with fail
 go_cut [] (fun wx => ∃ (s1 : Rs) (k1 : Int) (t1 : ByteArray) (n1 a1 : Int) (ks1 : List Nd) (A1 : Option Addr) (cap1 : Nat), Hid (St E M W [(w2.heap.size, #[.int .i64 k1, .string t1, .int .i64 n1, .int .i64 a1, .slice A1 ks1.length cap1], 25), (W.heap.size, #[.int .i64 0, .string ⟨#[]⟩, .int .i64 0, .int .i64 0, .slice none 0 0], 25)] none [(Nd.mk k1 t1 n1 a1 ks1, Value.agg #[.int .i64 k1, .string t1, .int .i64 n1, .int .i64 a1, .slice A1 ks1.length cap1])] s1 wx) ∧ Hid (simpleT E K (E.tok s.i).at_ (Nd.mk k1 t1 n1 a1 ks1) s1 = R))
 case first =>
  cases b0 with
  | true =>
   have HSP8 := HSP0; try simp only [hb0, reduceIte] at HSP8
   go_wp2_with fail
   go_at_call 137
   refine Post.use HSP8.out HNE.out (fun h0 => hK.unary _ _ HS6.rd h0) (be HS6.fp) ?_
   intro x9 s9 v9 w9 hsp9 hv9 hr9 hf9
   obtain ⟨k9, t9, n9, a9, ks9⟩ := x9
   obtain ⟨A9, cap9, rfl⟩ := VNd.form hv9
   clear a7
   have HS10 := Lib.hid (HS6.read hr9 hf9 hv9); try simp only [sz] at HS10
   have a11 := J2 (F5 HS10 M0) (F5 HS10 M1)
   have HSP9 := Lib.hid hsp9
   clear hsp9 hr9 hf9
   go_wp2_with fail
   go_meet
   exact ⟨_, _, _, _, _, _, _, _, (HS10.set5 (.int .i64 k9) (.string t9) (.int .i64 n9) (.int .i64 a9) (.slice A9 ks9.length cap9)), HSP9.out⟩
  | false =>
  have HSP8 := HSP0; try simp only [hb0, sm, reduceIte] at HSP8
  go_wp2_with fail
  go_at_call 146
  refine Post.use HSP8.out HNE.out (fun h0 => post_rd hE hK hix HS6.rd h0) (be HS6.fp) ?_
  intro x9 s9 v9 w9 hsp9 hv9 hr9 hf9
  obtain ⟨k9, t9, n9, a9, ks9⟩ := x9
  obtain ⟨A9, cap9, rfl⟩ := VNd.form hv9
  clear a7
  have HS10 := Lib.hid (HS6.read hr9 hf9 hv9); try simp only [sz] at HS10
  have a11 := J2 (F5 HS10 M0) (F5 HS10 M1)
  have HSP9 := Lib.hid hsp9
  clear hsp9 hr9 hf9
  go_wp2_with fail
  go_meet
  exact ⟨_, _, _, _, _, _, _, _, (HS10.set5 (.int .i64 k9) (.string t9) (.int .i64 n9) (.int .i64 a9) (.slice A9 ks9.length cap9)), HSP9.out⟩
 case rest =>
  obtain ⟨s1, k1, t1, n1, a1, ks1, A1, cap1, HC0, HSC⟩ := hcut
  have a8 := J2 (F5 HC0 M0) (F5 HC0 M1)
  have hsp9 := HSC.out
  simp only [simpleT, Nd.kind, sets_any] at hsp9
  have HSP9 := Lib.hid hsp9
  clear hsp9
  cases h48 : k1 == 48 with
  | true =>
   have HSP10 := HSP9; try simp only [h48, reduceIte] at HSP10
   obtain rfl : k1 = 48 := by simpa using h48
   clear h48
   have HS11 := Lib.hid (HC0.out.pn 48 t1 n1 a1 (.slice A1 ks1.length cap1)); try simp only [sz] at HS11
   have a12 := J3 (F5 HS11 M0) (F5 HS11 M1) (F5 HS11 M2)
   go_wp2_with fail
   have hs14 := ((HS11.swap3.set5 (.int .i64 30) (.string ⟨#[]⟩) (.int .i64 0) (.int .i64 (E.tok s.i).at_) (.slice (some ⟨wc.heap.size, 0, none⟩) 1 1)).swap.node [(.mk 48 t1 n1 a1 ks1, .agg #[.int .i64 48, .string t1, .int .i64 n1, .int .i64 a1, .slice A1 ks1.length cap1])] rfl (memC M0 (mem0 _)) (k := 30) (sx := ⟨#[]⟩) (n := 0) (a := (E.tok s.i).at_) ok_lit ok_lit (hE.at_ _) (by decide) (l := 1) rfl (by decide))
   refine St.fin (slot := 2) rfl hs14 rfl (hs14.bx.tr _ M0) ?_
   exact HSP10.out
  | false =>
  have HSP10 := HSP9; try simp only [h48, sm, reduceIte] at HSP10
  go_wp2_with fail
  go_at_call 42
  refine (at0_rd hE HC0.out.rd).mono ?_
  rintro e w11 ⟨rfl, hb11⟩
  clear a8
  have HS12 := Lib.hid ((HC0.out.below hb11).push #[.int .i64 (E.tok (s1).i).kind, .string (E.tok (s1).i).str, .int .i64 (E.tok (s1).i).at_] 46); try simp only [sz] at HS12
  have a13 := J3 (F3 HS12 M0) (F5 HS12 M1) (F5 HS12 M2)
  clear hb11
  obtain ⟨bp, hbp⟩ : ∃ b, placeB (.mk k1 t1 n1 a1 ks1) = b := ⟨_, rfl⟩
  go_wp2_with fail
  go_at_call 192
  refine (place_any _ _ _ _ ks1 _ _).mono ?_
  rw [hbp]
  rintro e w14 ⟨rfl, hb14⟩
  clear a13
  have HS15 := Lib.hid (HS12.below hb14); try simp only [sz] at HS15
  have a16 := J3 (F3 HS15 M0) (F5 HS15 M1) (F5 HS15 M2)
  clear hb14
  cases bp with
  | false =>
   have HSP17 := HSP10; try simp only [hbp, sm, reduceIte] at HSP17
   go_wp2_with fail
   go_at_call 44
   refine (fail_any hE HS15.rd).mono ?_
   rintro e wz ⟨rfl, hbz⟩
   exact ⟨rfl, bad_end (HSP17.out).symm (HS15.below hbz).fp⟩
  | true =>
  have HSP17 := HSP10; try simp only [hbp, sm] at HSP17
  cases hk : (cur E s1).kind == 7 with
  | true =>
   have HSP18 := HSP17; try simp only [hk, sm, reduceIte] at HSP18
   have hk1 : ((E.tok s1.i).kind == 7) = true := hk
   have hk2 : ((E.tok s1.i).kind != 7) = false := by simp only [bne, hk1, Bool.not_true]
   have hlt : s1.i < E.n := kind_ltB hE.ok hk1 (by decide)
   have c19_1 := HS15.rd.c1
   have f19_1 := HS15.rd.fz 1
   have HS20 := Lib.hid (HS15.adv1 hE (by first | omega | (simp only [adv]; omega))); try simp only [sz] at HS20
   have a21 := J3 (F3 HS20 M0) (F5 HS20 M1) (F5 HS20 M2)
   have c21_1 := HS20.rd.c1
   have f21_1 := HS20.rd.fz 1
   cases p0 : (cur E s1).text == [43, 43] with
   | true =>
    have HSP22 := HSP18; try simp only [p0, sm, reduceIte] at HSP22
    have p0t : ((E.tok s1.i).str.toList == [43, 43]) = true := str_eq _ _ p0
    have HS23 := Lib.hid (HS20.pn k1 t1 n1 a1 (.slice A1 ks1.length cap1)); try simp only [sz] at HS23
    have a24 := J4 (F5 HS23 M0) (F3 HS23 M1) (F5 HS23 M2) (F5 HS23 M3)
    go_wp2_with fail
    have hs26 := ((HS23.swap4.set5 (.int .i64 34) (.string (E.tok s1.i).str) (.int .i64 0) (.int .i64 (E.tok s.i).at_) (.slice (some ⟨w14.heap.size, 0, none⟩) 1 1)).swap.node [(.mk k1 t1 n1 a1 ks1, .agg #[.int .i64 k1, .string t1, .int .i64 n1, .int .i64 a1, .slice A1 ks1.length cap1])] rfl (memC M0 (mem0 _)) (k := 34) (sx := (E.tok s1.i).str) (n := 0) (a := (E.tok s.i).at_) ok_lit ok_lit (hE.at_ _) (hE.str _) (l := 1) rfl (by decide))
    refine St.fin (slot := 2) rfl hs26 rfl (hs26.bx.tr _ M0) ?_
    exact HSP22.out
   | false =>
   have HSP22 := HSP18; try simp only [p0, sm] at HSP22
   have p0t : ((E.tok s1.i).str.toList == [43, 43]) = false := str_eq _ _ p0
   cases p1 : (cur E s1).text == [45, 45] with
   | true =>
    have HSP23 := HSP22; try simp only [p1, reduceIte] at HSP23
    have p1t : ((E.tok s1.i).str.toList == [45, 45]) = true := str_eq _ _ p1
    have HS24 := Lib.hid (HS20.pn k1 t1 n1 a1 (.slice A1 ks1.length cap1)); try simp only [sz] at HS24
    have a25 := J4 (F5 HS24 M0) (F3 HS24 M1) (F5 HS24 M2) (F5 HS24 M3)
    go_wp2_with fail
    have hs27 := ((HS24.swap4.set5 (.int .i64 34) (.string (E.tok s1.i).str) (.int .i64 0) (.int .i64 (E.tok s.i).at_) (.slice (some ⟨w14.heap.size, 0, none⟩) 1 1)).swap.node [(.mk k1 t1 n1 a1 ks1, .agg #[.int .i64 k1, .string t1, .int .i64 n1, .int .i64 a1, .slice A1 ks1.length cap1])] rfl (memC M0 (mem0 _)) (k := 34) (sx := (E.tok s1.i).str) (n := 0) (a := (E.tok s.i).at_) ok_lit ok_lit (hE.at_ _) (hE.str _) (l := 1) rfl (by decide))
    refine St.fin (slot := 2) rfl hs27 rfl (hs27.bx.tr _ M0) ?_
    exact HSP23.out
   | false =>
   have HSP23 := HSP22; try simp only [p1, sm, reduceIte] at HSP23
   have p1t : ((E.tok s1.i).str.toList == [45, 45]) = false := str_eq _ _ p1
   cases p2 : (cur E s1).text == [61] with
   | true =>
    have HSP24 := HSP23; try simp only [p2, sm, reduceIte] at HSP24
    have p2t : ((E.tok s1.i).str.toList == [61]) = true := str_eq _ _ p2
    go_wp2_with fail
    clear a16 c19_1 f19_1 a21 c21_1 f21_1
    have hs25 := HS20.drew
    refine wp_region_G [] (fun Wx => Wx.cell? ⟨w11.heap.size, 1, none⟩ = some (.string (E.tok (s1).i).str) ∧ Wx.cell? ⟨w2.heap.size, 0, none⟩ = some (.int .i64 k1) ∧ Wx.cell? ⟨w2.heap.size, 1, none⟩ = some (.string t1) ∧ Wx.cell? ⟨w2.heap.size, 2, none⟩ = some (.int .i64 n1) ∧ Wx.cell? ⟨w2.heap.size, 3, none⟩ = some (.int .i64 a1) ∧ Wx.cell? ⟨w2.heap.size, 4, none⟩ = some (.slice A1 ks1.length cap1)) (by rfl) ?_ (fun hHeld => ?_)
    · exact ⟨hs25.a M0 1, hs25.a M1 0, hs25.a M1 1, hs25.a M1 2, hs25.a M1 3, hs25.a M1 4⟩
    revert hs25 hHeld
    generalize World.drew _ = wd25
    intro hs25 hHeld
    refine tk 0 (h := tk 1 (h := tk 2 (h := tk 3 (h := tk 4 (h := ?_)))))
    try simp only [nm]
    refine rd1 5 fun KK hKK => ?_
    go_simp
    go_at_call 37
    refine Post.nd HSP24 HNE (fun h0 => hK.expr _ _ hs25.rd h0) (be hs25.fp) ?_
    intro k26 t26 n26 a26 ks26 s26 A26 cap26 w26 HSP26 hv26 hr26 hf26
    have hs27 := (hs25.read hr26 hf26 hv26); try simp only [sz] at hs27
    clear hs25 hHeld
    refine hKK.out _ _ (⟨hs27.a M0 1, hs27.a M1 0, hs27.a M1 1, hs27.a M1 2, hs27.a M1 3, hs27.a M1 4⟩) (fun hHeld => ?_)
    clear hKK KK
    try simp only [nm]
    refine rd1 6 fun KK hKK => ?_
    go_simp
    have hs28 := (hs27.push #[.int .i64 k1, .string t1, .int .i64 n1, .int .i64 a1, .slice A1 ks1.length cap1, .int .i64 k26, .string t26, .int .i64 n26, .int .i64 a26, .slice A26 ks26.length cap26] 25); try simp only [sz] at hs28
    clear hs27
    revert hs28
    generalize World.alloc _ _ = wq29
    intro hs28
    clear hHeld
    refine hKK.out _ _ (⟨hs28.a M1 1, hs28.a M2 0, hs28.a M2 1, hs28.a M2 2, hs28.a M2 3, hs28.a M2 4⟩) (fun hHeld => ?_)
    clear hKK KK
    refine tk 7 (h := ?_)
    try simp only [nm]
    refine rd1 8 fun KK hKK => ?_
    have a30R := F5 hs28 M3
    go_simp
    clear a30R
    have hs31 := (hs28.swap4.set5 (.int .i64 20) (.string (E.tok s1.i).str) (.int .i64 0) (.int .i64 (E.tok s.i).at_) (.slice (some ⟨w26.heap.size, 0, none⟩) 2 2)); try simp only [sz] at hs31
    clear hs28
    revert hs31
    generalize World.setCell _ _ _ = wq32
    intro hs31
    clear hHeld
    refine hKK.out _ _ (⟨hs31.a M2 1, hs31.a M3 0, hs31.a M3 1, hs31.a M3 2, hs31.a M3 3, hs31.a M3 4⟩) (fun hHeld => ?_)
    clear hKK KK
    try simp only [nm]
    refine wpAnyG_done (by kernel_rfl) ?_ _
    have HS33 := Lib.hid hs31; try simp only [sz] at HS33
    clear hs31
    go_wp2_with fail
    have hs35 := (HS33.swap.node [(.mk k1 t1 n1 a1 ks1, .agg #[.int .i64 k1, .string t1, .int .i64 n1, .int .i64 a1, .slice A1 ks1.length cap1]), (.mk k26 t26 n26 a26 ks26, .agg #[.int .i64 k26, .string t26, .int .i64 n26, .int .i64 a26, .slice A26 ks26.length cap26])] rfl (memC M1 (memC M0 (mem0 _))) (k := 20) (sx := (E.tok s1.i).str) (n := 0) (a := (E.tok s.i).at_) ok_lit ok_lit (hE.at_ _) (hE.str _) (l := 2) rfl (by decide))
    refine St.fin (slot := 2) rfl hs35 rfl (hs35.bx.tr _ M0) ?_
    exact HSP26.out
   | false =>
   have HSP24 := HSP23; try simp only [p2, sm] at HSP24
   have p2t : ((E.tok s1.i).str.toList == [61]) = false := str_eq _ _ p2
   cases p3 : (cur E s1).text == [43, 61] with
   | true =>
    have HSP25 := HSP24; try simp only [p3, sm, reduceIte] at HSP25
    have p3t : ((E.tok s1.i).str.toList == [43, 61]) = true := str_eq _ _ p3
    go_wp2_with fail
    clear a16 c19_1 f19_1 a21 c21_1 f21_1
    have hs26 := HS20.drew
    refine wp_region_G [] (fun Wx => Wx.cell? ⟨w11.heap.size, 1, none⟩ = some (.string (E.tok (s1).i).str) ∧ Wx.cell? ⟨w2.heap.size, 0, none⟩ = some (.int .i64 k1) ∧ Wx.cell? ⟨w2.heap.size, 1, none⟩ = some (.string t1) ∧ Wx.cell? ⟨w2.heap.size, 2, none⟩ = some (.int .i64 n1) ∧ Wx.cell? ⟨w2.heap.size, 3, none⟩ = some (.int .i64 a1) ∧ Wx.cell? ⟨w2.heap.size, 4, none⟩ = some (.slice A1 ks1.length cap1)) (by rfl) ?_ (fun hHeld => ?_)
    · exact ⟨hs26.a M0 1, hs26.a M1 0, hs26.a M1 1, hs26.a M1 2, hs26.a M1 3, hs26.a M1 4⟩
    revert hs26 hHeld
    generalize World.drew _ = wd26
    intro hs26 hHeld
    refine tk 0 (h := tk 1 (h := tk 2 (h := tk 3 (h := tk 4 (h := ?_)))))
    try simp only [nm]
    refine rd1 5 fun KK hKK => ?_
    go_simp
    go_at_call 37
    refine Post.nd HSP25 HNE (fun h0 => hK.expr _ _ hs26.rd h0) (be hs26.fp) ?_
    intro k27 t27 n27 a27 ks27 s27 A27 cap27 w27 HSP27 hv27 hr27 hf27
    have hs28 := (hs26.read hr27 hf27 hv27); try simp only [sz] at hs28
    clear hs26 hHeld
    refine hKK.out _ _ (⟨hs28.a M0 1, hs28.a M1 0, hs28.a M1 1, hs28.a M1 2, hs28.a M1 3, hs28.a M1 4⟩) (fun hHeld => ?_)
    clear hKK KK
    try simp only [nm]
    refine rd1 6 fun KK hKK => ?_
    go_simp
    have hs29 := (hs28.push #[.int .i64 k1, .string t1, .int .i64 n1, .int .i64 a1, .slice A1 ks1.length cap1, .int .i64 k27, .string t27, .int .i64 n27, .int .i64 a27, .slice A27 ks27.length cap27] 25); try simp only [sz] at hs29
    clear hs28
    revert hs29
    generalize World.alloc _ _ = wq30
    intro hs29
    clear hHeld
    refine hKK.out _ _ (⟨hs29.a M1 1, hs29.a M2 0, hs29.a M2 1, hs29.a M2 2, hs29.a M2 3, hs29.a M2 4⟩) (fun hHeld => ?_)
    clear hKK KK
    refine tk 7 (h := ?_)
    try simp only [nm]
    refine rd1 8 fun KK hKK => ?_
    have a31R := F5 hs29 M3
    go_simp
    clear a31R
    have hs32 := (hs29.swap4.set5 (.int .i64 20) (.string (E.tok s1.i).str) (.int .i64 0) (.int .i64 (E.tok s.i).at_) (.slice (some ⟨w27.heap.size, 0, none⟩) 2 2)); try simp only [sz] at hs32
    clear hs29
    revert hs32
    generalize World.setCell _ _ _ = wq33
    intro hs32
    clear hHeld
    refine hKK.out _ _ (⟨hs32.a M2 1, hs32.a M3 0, hs32.a M3 1, hs32.a M3 2, hs32.a M3 3, hs32.a M3 4⟩) (fun hHeld => ?_)
    clear hKK KK
    try simp only [nm]
    refine wpAnyG_done (by kernel_rfl) ?_ _
    have HS34 := Lib.hid hs32; try simp only [sz] at HS34
    clear hs32
    go_wp2_with fail
    have hs36 := (HS34.swap.node [(.mk k1 t1 n1 a1 ks1, .agg #[.int .i64 k1, .string t1, .int .i64 n1, .int .i64 a1, .slice A1 ks1.length cap1]), (.mk k27 t27 n27 a27 ks27, .agg #[.int .i64 k27, .string t27, .int .i64 n27, .int .i64 a27, .slice A27 ks27.length cap27])] rfl (memC M1 (memC M0 (mem0 _))) (k := 20) (sx := (E.tok s1.i).str) (n := 0) (a := (E.tok s.i).at_) ok_lit ok_lit (hE.at_ _) (hE.str _) (l := 2) rfl (by decide))
    refine St.fin (slot := 2) rfl hs36 rfl (hs36.bx.tr _ M0) ?_
    exact HSP27.out
   | false =>
   have HSP25 := HSP24; try simp only [p3, sm] at HSP25
   have p3t : ((E.tok s1.i).str.toList == [43, 61]) = false := str_eq _ _ p3
   cases p4 : (cur E s1).text == [45, 61] with
   | true =>
    have HSP26 := HSP25; try simp only [p4, sm, reduceIte] at HSP26
    have p4t : ((E.tok s1.i).str.toList == [45, 61]) = true := str_eq _ _ p4
    go_wp2_with fail
    clear a16 c19_1 f19_1 a21 c21_1 f21_1
    have hs27 := HS20.drew
    refine wp_region_G [] (fun Wx => Wx.cell? ⟨w11.heap.size, 1, none⟩ = some (.string (E.tok (s1).i).str) ∧ Wx.cell? ⟨w2.heap.size, 0, none⟩ = some (.int .i64 k1) ∧ Wx.cell? ⟨w2.heap.size, 1, none⟩ = some (.string t1) ∧ Wx.cell? ⟨w2.heap.size, 2, none⟩ = some (.int .i64 n1) ∧ Wx.cell? ⟨w2.heap.size, 3, none⟩ = some (.int .i64 a1) ∧ Wx.cell? ⟨w2.heap.size, 4, none⟩ = some (.slice A1 ks1.length cap1)) (by rfl) ?_ (fun hHeld => ?_)
    · exact ⟨hs27.a M0 1, hs27.a M1 0, hs27.a M1 1, hs27.a M1 2, hs27.a M1 3, hs27.a M1 4⟩
    revert hs27 hHeld
    generalize World.drew _ = wd27
    intro hs27 hHeld
    refine tk 0 (h := tk 1 (h := tk 2 (h := tk 3 (h := tk 4 (h := ?_)))))
    try simp only [nm]
    refine rd1 5 fun KK hKK => ?_
    go_simp
    go_at_call 37
    refine Post.nd HSP26 HNE (fun h0 => hK.expr _ _ hs27.rd h0) (be hs27.fp) ?_
    intro k28 t28 n28 a28 ks28 s28 A28 cap28 w28 HSP28 hv28 hr28 hf28
    have hs29 := (hs27.read hr28 hf28 hv28); try simp only [sz] at hs29
    clear hs27 hHeld
    refine hKK.out _ _ (⟨hs29.a M0 1, hs29.a M1 0, hs29.a M1 1, hs29.a M1 2, hs29.a M1 3, hs29.a M1 4⟩) (fun hHeld => ?_)
    clear hKK KK
    try simp only [nm]
    refine rd1 6 fun KK hKK => ?_
    go_simp
    have hs30 := (hs29.push #[.int .i64 k1, .string t1, .int .i64 n1, .int .i64 a1, .slice A1 ks1.length cap1, .int .i64 k28, .string t28, .int .i64 n28, .int .i64 a28, .slice A28 ks28.length cap28] 25); try simp only [sz] at hs30
    clear hs29
    revert hs30
    generalize World.alloc _ _ = wq31
    intro hs30
    clear hHeld
    refine hKK.out _ _ (⟨hs30.a M1 1, hs30.a M2 0, hs30.a M2 1, hs30.a M2 2, hs30.a M2 3, hs30.a M2 4⟩) (fun hHeld => ?_)
    clear hKK KK
    refine tk 7 (h := ?_)
    try simp only [nm]
    refine rd1 8 fun KK hKK => ?_
    have a32R := F5 hs30 M3
    go_simp
    clear a32R
    have hs33 := (hs30.swap4.set5 (.int .i64 20) (.string (E.tok s1.i).str) (.int .i64 0) (.int .i64 (E.tok s.i).at_) (.slice (some ⟨w28.heap.size, 0, none⟩) 2 2)); try simp only [sz] at hs33
    clear hs30
    revert hs33
    generalize World.setCell _ _ _ = wq34
    intro hs33
    clear hHeld
    refine hKK.out _ _ (⟨hs33.a M2 1, hs33.a M3 0, hs33.a M3 1, hs33.a M3 2, hs33.a M3 3, hs33.a M3 4⟩) (fun hHeld => ?_)
    clear hKK KK
    try simp only [nm]
    refine wpAnyG_done (by kernel_rfl) ?_ _
    have HS35 := Lib.hid hs33; try simp only [sz] at HS35
    clear hs33
    go_wp2_with fail
    have hs37 := (HS35.swap.node [(.mk k1 t1 n1 a1 ks1, .agg #[.int .i64 k1, .string t1, .int .i64 n1, .int .i64 a1, .slice A1 ks1.length cap1]), (.mk k28 t28 n28 a28 ks28, .agg #[.int .i64 k28, .string t28, .int .i64 n28, .int .i64 a28, .slice A28 ks28.length cap28])] rfl (memC M1 (memC M0 (mem0 _))) (k := 20) (sx := (E.tok s1.i).str) (n := 0) (a := (E.tok s.i).at_) ok_lit ok_lit (hE.at_ _) (hE.str _) (l := 2) rfl (by decide))
    refine St.fin (slot := 2) rfl hs37 rfl (hs37.bx.tr _ M0) ?_
    exact HSP28.out
   | false =>
   have HSP26 := HSP25; try simp only [p4, sm] at HSP26
   have p4t : ((E.tok s1.i).str.toList == [45, 61]) = false := str_eq _ _ p4
   cases p5 : (cur E s1).text == [42, 61] with
   | true =>
    have HSP27 := HSP26; try simp only [p5, sm, reduceIte] at HSP27
    have p5t : ((E.tok s1.i).str.toList == [42, 61]) = true := str_eq _ _ p5
    go_wp2_with fail
    clear a16 c19_1 f19_1 a21 c21_1 f21_1
    have hs28 := HS20.drew
    refine wp_region_G [] (fun Wx => Wx.cell? ⟨w11.heap.size, 1, none⟩ = some (.string (E.tok (s1).i).str) ∧ Wx.cell? ⟨w2.heap.size, 0, none⟩ = some (.int .i64 k1) ∧ Wx.cell? ⟨w2.heap.size, 1, none⟩ = some (.string t1) ∧ Wx.cell? ⟨w2.heap.size, 2, none⟩ = some (.int .i64 n1) ∧ Wx.cell? ⟨w2.heap.size, 3, none⟩ = some (.int .i64 a1) ∧ Wx.cell? ⟨w2.heap.size, 4, none⟩ = some (.slice A1 ks1.length cap1)) (by rfl) ?_ (fun hHeld => ?_)
    · exact ⟨hs28.a M0 1, hs28.a M1 0, hs28.a M1 1, hs28.a M1 2, hs28.a M1 3, hs28.a M1 4⟩
    revert hs28 hHeld
    generalize World.drew _ = wd28
    intro hs28 hHeld
    refine tk 0 (h := tk 1 (h := tk 2 (h := tk 3 (h := tk 4 (h := ?_)))))
    try simp only [nm]
    refine rd1 5 fun KK hKK => ?_
    go_simp
    go_at_call 37
    refine Post.nd HSP27 HNE (fun h0 => hK.expr _ _ hs28.rd h0) (be hs28.fp) ?_
    intro k29 t29 n29 a29 ks29 s29 A29 cap29 w29 HSP29 hv29 hr29 hf29
    have hs30 := (hs28.read hr29 hf29 hv29); try simp only [sz] at hs30
    clear hs28 hHeld
    refine hKK.out _ _ (⟨hs30.a M0 1, hs30.a M1 0, hs30.a M1 1, hs30.a M1 2, hs30.a M1 3, hs30.a M1 4⟩) (fun hHeld => ?_)
    clear hKK KK
    try simp only [nm]
    refine rd1 6 fun KK hKK => ?_
    go_simp
    have hs31 := (hs30.push #[.int .i64 k1, .string t1, .int .i64 n1, .int .i64 a1, .slice A1 ks1.length cap1, .int .i64 k29, .string t29, .int .i64 n29, .int .i64 a29, .slice A29 ks29.length cap29] 25); try simp only [sz] at hs31
    clear hs30
    revert hs31
    generalize World.alloc _ _ = wq32
    intro hs31
    clear hHeld
    refine hKK.out _ _ (⟨hs31.a M1 1, hs31.a M2 0, hs31.a M2 1, hs31.a M2 2, hs31.a M2 3, hs31.a M2 4⟩) (fun hHeld => ?_)
    clear hKK KK
    refine tk 7 (h := ?_)
    try simp only [nm]
    refine rd1 8 fun KK hKK => ?_
    have a33R := F5 hs31 M3
    go_simp
    clear a33R
    have hs34 := (hs31.swap4.set5 (.int .i64 20) (.string (E.tok s1.i).str) (.int .i64 0) (.int .i64 (E.tok s.i).at_) (.slice (some ⟨w29.heap.size, 0, none⟩) 2 2)); try simp only [sz] at hs34
    clear hs31
    revert hs34
    generalize World.setCell _ _ _ = wq35
    intro hs34
    clear hHeld
    refine hKK.out _ _ (⟨hs34.a M2 1, hs34.a M3 0, hs34.a M3 1, hs34.a M3 2, hs34.a M3 3, hs34.a M3 4⟩) (fun hHeld => ?_)
    clear hKK KK
    try simp only [nm]
    refine wpAnyG_done (by kernel_rfl) ?_ _
    have HS36 := Lib.hid hs34; try simp only [sz] at HS36
    clear hs34
    go_wp2_with fail
    have hs38 := (HS36.swap.node [(.mk k1 t1 n1 a1 ks1, .agg #[.int .i64 k1, .string t1, .int .i64 n1, .int .i64 a1, .slice A1 ks1.length cap1]), (.mk k29 t29 n29 a29 ks29, .agg #[.int .i64 k29, .string t29, .int .i64 n29, .int .i64 a29, .slice A29 ks29.length cap29])] rfl (memC M1 (memC M0 (mem0 _))) (k := 20) (sx := (E.tok s1.i).str) (n := 0) (a := (E.tok s.i).at_) ok_lit ok_lit (hE.at_ _) (hE.str _) (l := 2) rfl (by decide))
    refine St.fin (slot := 2) rfl hs38 rfl (hs38.bx.tr _ M0) ?_
    exact HSP29.out
   | false =>
   have HSP27 := HSP26; try simp only [p5, sm] at HSP27
   have p5t : ((E.tok s1.i).str.toList == [42, 61]) = false := str_eq _ _ p5
   cases p6 : (cur E s1).text == [47, 61] with
   | true =>
    have HSP28 := HSP27; try simp only [p6, sm, reduceIte] at HSP28
    have p6t : ((E.tok s1.i).str.toList == [47, 61]) = true := str_eq _ _ p6
    go_wp2_with fail
    clear a16 c19_1 f19_1 a21 c21_1 f21_1
    have hs29 := HS20.drew
    refine wp_region_G [] (fun Wx => Wx.cell? ⟨w11.heap.size, 1, none⟩ = some (.string (E.tok (s1).i).str) ∧ Wx.cell? ⟨w2.heap.size, 0, none⟩ = some (.int .i64 k1) ∧ Wx.cell? ⟨w2.heap.size, 1, none⟩ = some (.string t1) ∧ Wx.cell? ⟨w2.heap.size, 2, none⟩ = some (.int .i64 n1) ∧ Wx.cell? ⟨w2.heap.size, 3, none⟩ = some (.int .i64 a1) ∧ Wx.cell? ⟨w2.heap.size, 4, none⟩ = some (.slice A1 ks1.length cap1)) (by rfl) ?_ (fun hHeld => ?_)
    · exact ⟨hs29.a M0 1, hs29.a M1 0, hs29.a M1 1, hs29.a M1 2, hs29.a M1 3, hs29.a M1 4⟩
    revert hs29 hHeld
    generalize World.drew _ = wd29
    intro hs29 hHeld
    refine tk 0 (h := tk 1 (h := tk 2 (h := tk 3 (h := tk 4 (h := ?_)))))
    try simp only [nm]
    refine rd1 5 fun KK hKK => ?_
    go_simp
    go_at_call 37
    refine Post.nd HSP28 HNE (fun h0 => hK.expr _ _ hs29.rd h0) (be hs29.fp) ?_
    intro k30 t30 n30 a30 ks30 s30 A30 cap30 w30 HSP30 hv30 hr30 hf30
    have hs31 := (hs29.read hr30 hf30 hv30); try simp only [sz] at hs31
    clear hs29 hHeld
    refine hKK.out _ _ (⟨hs31.a M0 1, hs31.a M1 0, hs31.a M1 1, hs31.a M1 2, hs31.a M1 3, hs31.a M1 4⟩) (fun hHeld => ?_)
    clear hKK KK
    try simp only [nm]
    refine rd1 6 fun KK hKK => ?_
    go_simp
    have hs32 := (hs31.push #[.int .i64 k1, .string t1, .int .i64 n1, .int .i64 a1, .slice A1 ks1.length cap1, .int .i64 k30, .string t30, .int .i64 n30, .int .i64 a30, .slice A30 ks30.length cap30] 25); try simp only [sz] at hs32
    clear hs31
    revert hs32
    generalize World.alloc _ _ = wq33
    intro hs32
    clear hHeld
    refine hKK.out _ _ (⟨hs32.a M1 1, hs32.a M2 0, hs32.a M2 1, hs32.a M2 2, hs32.a M2 3, hs32.a M2 4⟩) (fun hHeld => ?_)
    clear hKK KK
    refine tk 7 (h := ?_)
    try simp only [nm]
    refine rd1 8 fun KK hKK => ?_
    have a34R := F5 hs32 M3
    go_simp
    clear a34R
    have hs35 := (hs32.swap4.set5 (.int .i64 20) (.string (E.tok s1.i).str) (.int .i64 0) (.int .i64 (E.tok s.i).at_) (.slice (some ⟨w30.heap.size, 0, none⟩) 2 2)); try simp only [sz] at hs35
    clear hs32
    revert hs35
    generalize World.setCell _ _ _ = wq36
    intro hs35
    clear hHeld
    refine hKK.out _ _ (⟨hs35.a M2 1, hs35.a M3 0, hs35.a M3 1, hs35.a M3 2, hs35.a M3 3, hs35.a M3 4⟩) (fun hHeld => ?_)
    clear hKK KK
    try simp only [nm]
    refine wpAnyG_done (by kernel_rfl) ?_ _
    have HS37 := Lib.hid hs35; try simp only [sz] at HS37
    clear hs35
    go_wp2_with fail
    have hs39 := (HS37.swap.node [(.mk k1 t1 n1 a1 ks1, .agg #[.int .i64 k1, .string t1, .int .i64 n1, .int .i64 a1, .slice A1 ks1.length cap1]), (.mk k30 t30 n30 a30 ks30, .agg #[.int .i64 k30, .string t30, .int .i64 n30, .int .i64 a30, .slice A30 ks30.length cap30])] rfl (memC M1 (memC M0 (mem0 _))) (k := 20) (sx := (E.tok s1.i).str) (n := 0) (a := (E.tok s.i).at_) ok_lit ok_lit (hE.at_ _) (hE.str _) (l := 2) rfl (by decide))
    refine St.fin (slot := 2) rfl hs39 rfl (hs39.bx.tr _ M0) ?_
    exact HSP30.out
   | false =>
   have HSP28 := HSP27; try simp only [p6, sm] at HSP28
   have p6t : ((E.tok s1.i).str.toList == [47, 61]) = false := str_eq _ _ p6
   cases p7 : (cur E s1).text == [37, 61] with
   | true =>
    have HSP29 := HSP28; try simp only [p7, sm, reduceIte] at HSP29
    have p7t : ((E.tok s1.i).str.toList == [37, 61]) = true := str_eq _ _ p7
    go_wp2_with fail
    clear a16 c19_1 f19_1 a21 c21_1 f21_1
    have hs30 := HS20.drew
    refine wp_region_G [] (fun Wx => Wx.cell? ⟨w11.heap.size, 1, none⟩ = some (.string (E.tok (s1).i).str) ∧ Wx.cell? ⟨w2.heap.size, 0, none⟩ = some (.int .i64 k1) ∧ Wx.cell? ⟨w2.heap.size, 1, none⟩ = some (.string t1) ∧ Wx.cell? ⟨w2.heap.size, 2, none⟩ = some (.int .i64 n1) ∧ Wx.cell? ⟨w2.heap.size, 3, none⟩ = some (.int .i64 a1) ∧ Wx.cell? ⟨w2.heap.size, 4, none⟩ = some (.slice A1 ks1.length cap1)) (by rfl) ?_ (fun hHeld => ?_)
    · exact ⟨hs30.a M0 1, hs30.a M1 0, hs30.a M1 1, hs30.a M1 2, hs30.a M1 3, hs30.a M1 4⟩
    revert hs30 hHeld
    generalize World.drew _ = wd30
    intro hs30 hHeld
    refine tk 0 (h := tk 1 (h := tk 2 (h := tk 3 (h := tk 4 (h := ?_)))))
    try simp only [nm]
    refine rd1 5 fun KK hKK => ?_
    go_simp
    go_at_call 37
    refine Post.nd HSP29 HNE (fun h0 => hK.expr _ _ hs30.rd h0) (be hs30.fp) ?_
    intro k31 t31 n31 a31 ks31 s31 A31 cap31 w31 HSP31 hv31 hr31 hf31
    have hs32 := (hs30.read hr31 hf31 hv31); try simp only [sz] at hs32
    clear hs30 hHeld
    refine hKK.out _ _ (⟨hs32.a M0 1, hs32.a M1 0, hs32.a M1 1, hs32.a M1 2, hs32.a M1 3, hs32.a M1 4⟩) (fun hHeld => ?_)
    clear hKK KK
    try simp only [nm]
    refine rd1 6 fun KK hKK => ?_
    go_simp
    have hs33 := (hs32.push #[.int .i64 k1, .string t1, .int .i64 n1, .int .i64 a1, .slice A1 ks1.length cap1, .int .i64 k31, .string t31, .int .i64 n31, .int .i64 a31, .slice A31 ks31.length cap31] 25); try simp only [sz] at hs33
    clear hs32
    revert hs33
    generalize World.alloc _ _ = wq34
    intro hs33
    clear hHeld
    refine hKK.out _ _ (⟨hs33.a M1 1, hs33.a M2 0, hs33.a M2 1, hs33.a M2 2, hs33.a M2 3, hs33.a M2 4⟩) (fun hHeld => ?_)
    clear hKK KK
    refine tk 7 (h := ?_)
    try simp only [nm]
    refine rd1 8 fun KK hKK => ?_
    have a35R := F5 hs33 M3
    go_simp
    clear a35R
    have hs36 := (hs33.swap4.set5 (.int .i64 20) (.string (E.tok s1.i).str) (.int .i64 0) (.int .i64 (E.tok s.i).at_) (.slice (some ⟨w31.heap.size, 0, none⟩) 2 2)); try simp only [sz] at hs36
    clear hs33
    revert hs36
    generalize World.setCell _ _ _ = wq37
    intro hs36
    clear hHeld
    refine hKK.out _ _ (⟨hs36.a M2 1, hs36.a M3 0, hs36.a M3 1, hs36.a M3 2, hs36.a M3 3, hs36.a M3 4⟩) (fun hHeld => ?_)
    clear hKK KK
    try simp only [nm]
    refine wpAnyG_done (by kernel_rfl) ?_ _
    have HS38 := Lib.hid hs36; try simp only [sz] at HS38
    clear hs36
    go_wp2_with fail
    have hs40 := (HS38.swap.node [(.mk k1 t1 n1 a1 ks1, .agg #[.int .i64 k1, .string t1, .int .i64 n1, .int .i64 a1, .slice A1 ks1.length cap1]), (.mk k31 t31 n31 a31 ks31, .agg #[.int .i64 k31, .string t31, .int .i64 n31, .int .i64 a31, .slice A31 ks31.length cap31])] rfl (memC M1 (memC M0 (mem0 _))) (k := 20) (sx := (E.tok s1.i).str) (n := 0) (a := (E.tok s.i).at_) ok_lit ok_lit (hE.at_ _) (hE.str _) (l := 2) rfl (by decide))
    refine St.fin (slot := 2) rfl hs40 rfl (hs40.bx.tr _ M0) ?_
    exact HSP31.out
   | false =>
   have HSP29 := HSP28; try simp only [p7, sm] at HSP29
   have p7t : ((E.tok s1.i).str.toList == [37, 61]) = false := str_eq _ _ p7
   cases p8 : (cur E s1).text == [38, 61] with
   | true =>
    have HSP30 := HSP29; try simp only [p8, sm, reduceIte] at HSP30
    have p8t : ((E.tok s1.i).str.toList == [38, 61]) = true := str_eq _ _ p8
    go_wp2_with fail
    clear a16 c19_1 f19_1 a21 c21_1 f21_1
    have hs31 := HS20.drew
    refine wp_region_G [] (fun Wx => Wx.cell? ⟨w11.heap.size, 1, none⟩ = some (.string (E.tok (s1).i).str) ∧ Wx.cell? ⟨w2.heap.size, 0, none⟩ = some (.int .i64 k1) ∧ Wx.cell? ⟨w2.heap.size, 1, none⟩ = some (.string t1) ∧ Wx.cell? ⟨w2.heap.size, 2, none⟩ = some (.int .i64 n1) ∧ Wx.cell? ⟨w2.heap.size, 3, none⟩ = some (.int .i64 a1) ∧ Wx.cell? ⟨w2.heap.size, 4, none⟩ = some (.slice A1 ks1.length cap1)) (by rfl) ?_ (fun hHeld => ?_)
    · exact ⟨hs31.a M0 1, hs31.a M1 0, hs31.a M1 1, hs31.a M1 2, hs31.a M1 3, hs31.a M1 4⟩
    revert hs31 hHeld
    generalize World.drew _ = wd31
    intro hs31 hHeld
    refine tk 0 (h := tk 1 (h := tk 2 (h := tk 3 (h := tk 4 (h := ?_)))))
    try simp only [nm]
    refine rd1 5 fun KK hKK => ?_
    go_simp
    go_at_call 37
    refine Post.nd HSP30 HNE (fun h0 => hK.expr _ _ hs31.rd h0) (be hs31.fp) ?_
    intro k32 t32 n32 a32 ks32 s32 A32 cap32 w32 HSP32 hv32 hr32 hf32
    have hs33 := (hs31.read hr32 hf32 hv32); try simp only [sz] at hs33
    clear hs31 hHeld
    refine hKK.out _ _ (⟨hs33.a M0 1, hs33.a M1 0, hs33.a M1 1, hs33.a M1 2, hs33.a M1 3, hs33.a M1 4⟩) (fun hHeld => ?_)
    clear hKK KK
    try simp only [nm]
    refine rd1 6 fun KK hKK => ?_
    go_simp
    have hs34 := (hs33.push #[.int .i64 k1, .string t1, .int .i64 n1, .int .i64 a1, .slice A1 ks1.length cap1, .int .i64 k32, .string t32, .int .i64 n32, .int .i64 a32, .slice A32 ks32.length cap32] 25); try simp only [sz] at hs34
    clear hs33
    revert hs34
    generalize World.alloc _ _ = wq35
    intro hs34
    clear hHeld
    refine hKK.out _ _ (⟨hs34.a M1 1, hs34.a M2 0, hs34.a M2 1, hs34.a M2 2, hs34.a M2 3, hs34.a M2 4⟩) (fun hHeld => ?_)
    clear hKK KK
    refine tk 7 (h := ?_)
    try simp only [nm]
    refine rd1 8 fun KK hKK => ?_
    have a36R := F5 hs34 M3
    go_simp
    clear a36R
    have hs37 := (hs34.swap4.set5 (.int .i64 20) (.string (E.tok s1.i).str) (.int .i64 0) (.int .i64 (E.tok s.i).at_) (.slice (some ⟨w32.heap.size, 0, none⟩) 2 2)); try simp only [sz] at hs37
    clear hs34
    revert hs37
    generalize World.setCell _ _ _ = wq38
    intro hs37
    clear hHeld
    refine hKK.out _ _ (⟨hs37.a M2 1, hs37.a M3 0, hs37.a M3 1, hs37.a M3 2, hs37.a M3 3, hs37.a M3 4⟩) (fun hHeld => ?_)
    clear hKK KK
    try simp only [nm]
    refine wpAnyG_done (by kernel_rfl) ?_ _
    have HS39 := Lib.hid hs37; try simp only [sz] at HS39
    clear hs37
    go_wp2_with fail
    have hs41 := (HS39.swap.node [(.mk k1 t1 n1 a1 ks1, .agg #[.int .i64 k1, .string t1, .int .i64 n1, .int .i64 a1, .slice A1 ks1.length cap1]), (.mk k32 t32 n32 a32 ks32, .agg #[.int .i64 k32, .string t32, .int .i64 n32, .int .i64 a32, .slice A32 ks32.length cap32])] rfl (memC M1 (memC M0 (mem0 _))) (k := 20) (sx := (E.tok s1.i).str) (n := 0) (a := (E.tok s.i).at_) ok_lit ok_lit (hE.at_ _) (hE.str _) (l := 2) rfl (by decide))
    refine St.fin (slot := 2) rfl hs41 rfl (hs41.bx.tr _ M0) ?_
    exact HSP32.out
   | false =>
   have HSP30 := HSP29; try simp only [p8, sm] at HSP30
   have p8t : ((E.tok s1.i).str.toList == [38, 61]) = false := str_eq _ _ p8
   cases p9 : (cur E s1).text == [124, 61] with
   | true =>
    have HSP31 := HSP30; try simp only [p9, sm, reduceIte] at HSP31
    have p9t : ((E.tok s1.i).str.toList == [124, 61]) = true := str_eq _ _ p9
    go_wp2_with fail
    clear a16 c19_1 f19_1 a21 c21_1 f21_1
    have hs32 := HS20.drew
    refine wp_region_G [] (fun Wx => Wx.cell? ⟨w11.heap.size, 1, none⟩ = some (.string (E.tok (s1).i).str) ∧ Wx.cell? ⟨w2.heap.size, 0, none⟩ = some (.int .i64 k1) ∧ Wx.cell? ⟨w2.heap.size, 1, none⟩ = some (.string t1) ∧ Wx.cell? ⟨w2.heap.size, 2, none⟩ = some (.int .i64 n1) ∧ Wx.cell? ⟨w2.heap.size, 3, none⟩ = some (.int .i64 a1) ∧ Wx.cell? ⟨w2.heap.size, 4, none⟩ = some (.slice A1 ks1.length cap1)) (by rfl) ?_ (fun hHeld => ?_)
    · exact ⟨hs32.a M0 1, hs32.a M1 0, hs32.a M1 1, hs32.a M1 2, hs32.a M1 3, hs32.a M1 4⟩
    revert hs32 hHeld
    generalize World.drew _ = wd32
    intro hs32 hHeld
    refine tk 0 (h := tk 1 (h := tk 2 (h := tk 3 (h := tk 4 (h := ?_)))))
    try simp only [nm]
    refine rd1 5 fun KK hKK => ?_
    go_simp
    go_at_call 37
    refine Post.nd HSP31 HNE (fun h0 => hK.expr _ _ hs32.rd h0) (be hs32.fp) ?_
    intro k33 t33 n33 a33 ks33 s33 A33 cap33 w33 HSP33 hv33 hr33 hf33
    have hs34 := (hs32.read hr33 hf33 hv33); try simp only [sz] at hs34
    clear hs32 hHeld
    refine hKK.out _ _ (⟨hs34.a M0 1, hs34.a M1 0, hs34.a M1 1, hs34.a M1 2, hs34.a M1 3, hs34.a M1 4⟩) (fun hHeld => ?_)
    clear hKK KK
    try simp only [nm]
    refine rd1 6 fun KK hKK => ?_
    go_simp
    have hs35 := (hs34.push #[.int .i64 k1, .string t1, .int .i64 n1, .int .i64 a1, .slice A1 ks1.length cap1, .int .i64 k33, .string t33, .int .i64 n33, .int .i64 a33, .slice A33 ks33.length cap33] 25); try simp only [sz] at hs35
    clear hs34
    revert hs35
    generalize World.alloc _ _ = wq36
    intro hs35
    clear hHeld
    refine hKK.out _ _ (⟨hs35.a M1 1, hs35.a M2 0, hs35.a M2 1, hs35.a M2 2, hs35.a M2 3, hs35.a M2 4⟩) (fun hHeld => ?_)
    clear hKK KK
    refine tk 7 (h := ?_)
    try simp only [nm]
    refine rd1 8 fun KK hKK => ?_
    have a37R := F5 hs35 M3
    go_simp
    clear a37R
    have hs38 := (hs35.swap4.set5 (.int .i64 20) (.string (E.tok s1.i).str) (.int .i64 0) (.int .i64 (E.tok s.i).at_) (.slice (some ⟨w33.heap.size, 0, none⟩) 2 2)); try simp only [sz] at hs38
    clear hs35
    revert hs38
    generalize World.setCell _ _ _ = wq39
    intro hs38
    clear hHeld
    refine hKK.out _ _ (⟨hs38.a M2 1, hs38.a M3 0, hs38.a M3 1, hs38.a M3 2, hs38.a M3 3, hs38.a M3 4⟩) (fun hHeld => ?_)
    clear hKK KK
    try simp only [nm]
    refine wpAnyG_done (by kernel_rfl) ?_ _
    have HS40 := Lib.hid hs38; try simp only [sz] at HS40
    clear hs38
    go_wp2_with fail
    have hs42 := (HS40.swap.node [(.mk k1 t1 n1 a1 ks1, .agg #[.int .i64 k1, .string t1, .int .i64 n1, .int .i64 a1, .slice A1 ks1.length cap1]), (.mk k33 t33 n33 a33 ks33, .agg #[.int .i64 k33, .string t33, .int .i64 n33, .int .i64 a33, .slice A33 ks33.length cap33])] rfl (memC M1 (memC M0 (mem0 _))) (k := 20) (sx := (E.tok s1.i).str) (n := 0) (a := (E.tok s.i).at_) ok_lit ok_lit (hE.at_ _) (hE.str _) (l := 2) rfl (by decide))
    refine St.fin (slot := 2) rfl hs42 rfl (hs42.bx.tr _ M0) ?_
    exact HSP33.out
   | false =>
   have HSP31 := HSP30; try simp only [p9, sm] at HSP31
   have p9t : ((E.tok s1.i).str.toList == [124, 61]) = false := str_eq _ _ p9
   cases p10 : (cur E s1).text == [94, 61] with
   | true =>
    have HSP32 := HSP31; try simp only [p10, sm, reduceIte] at HSP32
    have p10t : ((E.tok s1.i).str.toList == [94, 61]) = true := str_eq _ _ p10
    go_wp2_with fail
    clear a16 c19_1 f19_1 a21 c21_1 f21_1
    have hs33 := HS20.drew
    refine wp_region_G [] (fun Wx => Wx.cell? ⟨w11.heap.size, 1, none⟩ = some (.string (E.tok (s1).i).str) ∧ Wx.cell? ⟨w2.heap.size, 0, none⟩ = some (.int .i64 k1) ∧ Wx.cell? ⟨w2.heap.size, 1, none⟩ = some (.string t1) ∧ Wx.cell? ⟨w2.heap.size, 2, none⟩ = some (.int .i64 n1) ∧ Wx.cell? ⟨w2.heap.size, 3, none⟩ = some (.int .i64 a1) ∧ Wx.cell? ⟨w2.heap.size, 4, none⟩ = some (.slice A1 ks1.length cap1)) (by rfl) ?_ (fun hHeld => ?_)
    · exact ⟨hs33.a M0 1, hs33.a M1 0, hs33.a M1 1, hs33.a M1 2, hs33.a M1 3, hs33.a M1 4⟩
    revert hs33 hHeld
    generalize World.drew _ = wd33
    intro hs33 hHeld
    refine tk 0 (h := tk 1 (h := tk 2 (h := tk 3 (h := tk 4 (h := ?_)))))
    try simp only [nm]
    refine rd1 5 fun KK hKK => ?_
    go_simp
    go_at_call 37
    refine Post.nd HSP32 HNE (fun h0 => hK.expr _ _ hs33.rd h0) (be hs33.fp) ?_
    intro k34 t34 n34 a34 ks34 s34 A34 cap34 w34 HSP34 hv34 hr34 hf34
    have hs35 := (hs33.read hr34 hf34 hv34); try simp only [sz] at hs35
    clear hs33 hHeld
    refine hKK.out _ _ (⟨hs35.a M0 1, hs35.a M1 0, hs35.a M1 1, hs35.a M1 2, hs35.a M1 3, hs35.a M1 4⟩) (fun hHeld => ?_)
    clear hKK KK
    try simp only [nm]
    refine rd1 6 fun KK hKK => ?_
    go_simp
    have hs36 := (hs35.push #[.int .i64 k1, .string t1, .int .i64 n1, .int .i64 a1, .slice A1 ks1.length cap1, .int .i64 k34, .string t34, .int .i64 n34, .int .i64 a34, .slice A34 ks34.length cap34] 25); try simp only [sz] at hs36
    clear hs35
    revert hs36
    generalize World.alloc _ _ = wq37
    intro hs36
    clear hHeld
    refine hKK.out _ _ (⟨hs36.a M1 1, hs36.a M2 0, hs36.a M2 1, hs36.a M2 2, hs36.a M2 3, hs36.a M2 4⟩) (fun hHeld => ?_)
    clear hKK KK
    refine tk 7 (h := ?_)
    try simp only [nm]
    refine rd1 8 fun KK hKK => ?_
    have a38R := F5 hs36 M3
    go_simp
    clear a38R
    have hs39 := (hs36.swap4.set5 (.int .i64 20) (.string (E.tok s1.i).str) (.int .i64 0) (.int .i64 (E.tok s.i).at_) (.slice (some ⟨w34.heap.size, 0, none⟩) 2 2)); try simp only [sz] at hs39
    clear hs36
    revert hs39
    generalize World.setCell _ _ _ = wq40
    intro hs39
    clear hHeld
    refine hKK.out _ _ (⟨hs39.a M2 1, hs39.a M3 0, hs39.a M3 1, hs39.a M3 2, hs39.a M3 3, hs39.a M3 4⟩) (fun hHeld => ?_)
    clear hKK KK
    try simp only [nm]
    refine wpAnyG_done (by kernel_rfl) ?_ _
    have HS41 := Lib.hid hs39; try simp only [sz] at HS41
    clear hs39
    go_wp2_with fail
    have hs43 := (HS41.swap.node [(.mk k1 t1 n1 a1 ks1, .agg #[.int .i64 k1, .string t1, .int .i64 n1, .int .i64 a1, .slice A1 ks1.length cap1]), (.mk k34 t34 n34 a34 ks34, .agg #[.int .i64 k34, .string t34, .int .i64 n34, .int .i64 a34, .slice A34 ks34.length cap34])] rfl (memC M1 (memC M0 (mem0 _))) (k := 20) (sx := (E.tok s1.i).str) (n := 0) (a := (E.tok s.i).at_) ok_lit ok_lit (hE.at_ _) (hE.str _) (l := 2) rfl (by decide))
    refine St.fin (slot := 2) rfl hs43 rfl (hs43.bx.tr _ M0) ?_
    exact HSP34.out
   | false =>
   have HSP32 := HSP31; try simp only [p10, sm] at HSP32
   have p10t : ((E.tok s1.i).str.toList == [94, 61]) = false := str_eq _ _ p10
   cases p11 : (cur E s1).text == [60, 60, 61] with
   | true =>
    have HSP33 := HSP32; try simp only [p11, sm, reduceIte] at HSP33
    have p11t : ((E.tok s1.i).str.toList == [60, 60, 61]) = true := str_eq _ _ p11
    go_wp2_with fail
    clear a16 c19_1 f19_1 a21 c21_1 f21_1
    have hs34 := HS20.drew
    refine wp_region_G [] (fun Wx => Wx.cell? ⟨w11.heap.size, 1, none⟩ = some (.string (E.tok (s1).i).str) ∧ Wx.cell? ⟨w2.heap.size, 0, none⟩ = some (.int .i64 k1) ∧ Wx.cell? ⟨w2.heap.size, 1, none⟩ = some (.string t1) ∧ Wx.cell? ⟨w2.heap.size, 2, none⟩ = some (.int .i64 n1) ∧ Wx.cell? ⟨w2.heap.size, 3, none⟩ = some (.int .i64 a1) ∧ Wx.cell? ⟨w2.heap.size, 4, none⟩ = some (.slice A1 ks1.length cap1)) (by rfl) ?_ (fun hHeld => ?_)
    · exact ⟨hs34.a M0 1, hs34.a M1 0, hs34.a M1 1, hs34.a M1 2, hs34.a M1 3, hs34.a M1 4⟩
    revert hs34 hHeld
    generalize World.drew _ = wd34
    intro hs34 hHeld
    refine tk 0 (h := tk 1 (h := tk 2 (h := tk 3 (h := tk 4 (h := ?_)))))
    try simp only [nm]
    refine rd1 5 fun KK hKK => ?_
    go_simp
    go_at_call 37
    refine Post.nd HSP33 HNE (fun h0 => hK.expr _ _ hs34.rd h0) (be hs34.fp) ?_
    intro k35 t35 n35 a35 ks35 s35 A35 cap35 w35 HSP35 hv35 hr35 hf35
    have hs36 := (hs34.read hr35 hf35 hv35); try simp only [sz] at hs36
    clear hs34 hHeld
    refine hKK.out _ _ (⟨hs36.a M0 1, hs36.a M1 0, hs36.a M1 1, hs36.a M1 2, hs36.a M1 3, hs36.a M1 4⟩) (fun hHeld => ?_)
    clear hKK KK
    try simp only [nm]
    refine rd1 6 fun KK hKK => ?_
    go_simp
    have hs37 := (hs36.push #[.int .i64 k1, .string t1, .int .i64 n1, .int .i64 a1, .slice A1 ks1.length cap1, .int .i64 k35, .string t35, .int .i64 n35, .int .i64 a35, .slice A35 ks35.length cap35] 25); try simp only [sz] at hs37
    clear hs36
    revert hs37
    generalize World.alloc _ _ = wq38
    intro hs37
    clear hHeld
    refine hKK.out _ _ (⟨hs37.a M1 1, hs37.a M2 0, hs37.a M2 1, hs37.a M2 2, hs37.a M2 3, hs37.a M2 4⟩) (fun hHeld => ?_)
    clear hKK KK
    refine tk 7 (h := ?_)
    try simp only [nm]
    refine rd1 8 fun KK hKK => ?_
    have a39R := F5 hs37 M3
    go_simp
    clear a39R
    have hs40 := (hs37.swap4.set5 (.int .i64 20) (.string (E.tok s1.i).str) (.int .i64 0) (.int .i64 (E.tok s.i).at_) (.slice (some ⟨w35.heap.size, 0, none⟩) 2 2)); try simp only [sz] at hs40
    clear hs37
    revert hs40
    generalize World.setCell _ _ _ = wq41
    intro hs40
    clear hHeld
    refine hKK.out _ _ (⟨hs40.a M2 1, hs40.a M3 0, hs40.a M3 1, hs40.a M3 2, hs40.a M3 3, hs40.a M3 4⟩) (fun hHeld => ?_)
    clear hKK KK
    try simp only [nm]
    refine wpAnyG_done (by kernel_rfl) ?_ _
    have HS42 := Lib.hid hs40; try simp only [sz] at HS42
    clear hs40
    go_wp2_with fail
    have hs44 := (HS42.swap.node [(.mk k1 t1 n1 a1 ks1, .agg #[.int .i64 k1, .string t1, .int .i64 n1, .int .i64 a1, .slice A1 ks1.length cap1]), (.mk k35 t35 n35 a35 ks35, .agg #[.int .i64 k35, .string t35, .int .i64 n35, .int .i64 a35, .slice A35 ks35.length cap35])] rfl (memC M1 (memC M0 (mem0 _))) (k := 20) (sx := (E.tok s1.i).str) (n := 0) (a := (E.tok s.i).at_) ok_lit ok_lit (hE.at_ _) (hE.str _) (l := 2) rfl (by decide))
    refine St.fin (slot := 2) rfl hs44 rfl (hs44.bx.tr _ M0) ?_
    exact HSP35.out
   | false =>
   have HSP33 := HSP32; try simp only [p11, sm] at HSP33
   have p11t : ((E.tok s1.i).str.toList == [60, 60, 61]) = false := str_eq _ _ p11
   cases p12 : (cur E s1).text == [62, 62, 61] with
   | true =>
    have HSP34 := HSP33; try simp only [p12, reduceIte] at HSP34
    have p12t : ((E.tok s1.i).str.toList == [62, 62, 61]) = true := str_eq _ _ p12
    go_wp2_with fail
    clear a16 c19_1 f19_1 a21 c21_1 f21_1
    have hs35 := HS20.drew
    refine wp_region_G [] (fun Wx => Wx.cell? ⟨w11.heap.size, 1, none⟩ = some (.string (E.tok (s1).i).str) ∧ Wx.cell? ⟨w2.heap.size, 0, none⟩ = some (.int .i64 k1) ∧ Wx.cell? ⟨w2.heap.size, 1, none⟩ = some (.string t1) ∧ Wx.cell? ⟨w2.heap.size, 2, none⟩ = some (.int .i64 n1) ∧ Wx.cell? ⟨w2.heap.size, 3, none⟩ = some (.int .i64 a1) ∧ Wx.cell? ⟨w2.heap.size, 4, none⟩ = some (.slice A1 ks1.length cap1)) (by rfl) ?_ (fun hHeld => ?_)
    · exact ⟨hs35.a M0 1, hs35.a M1 0, hs35.a M1 1, hs35.a M1 2, hs35.a M1 3, hs35.a M1 4⟩
    revert hs35 hHeld
    generalize World.drew _ = wd35
    intro hs35 hHeld
    refine tk 0 (h := tk 1 (h := tk 2 (h := tk 3 (h := tk 4 (h := ?_)))))
    try simp only [nm]
    refine rd1 5 fun KK hKK => ?_
    go_simp
    go_at_call 37
    refine Post.nd HSP34 HNE (fun h0 => hK.expr _ _ hs35.rd h0) (be hs35.fp) ?_
    intro k36 t36 n36 a36 ks36 s36 A36 cap36 w36 HSP36 hv36 hr36 hf36
    have hs37 := (hs35.read hr36 hf36 hv36); try simp only [sz] at hs37
    clear hs35 hHeld
    refine hKK.out _ _ (⟨hs37.a M0 1, hs37.a M1 0, hs37.a M1 1, hs37.a M1 2, hs37.a M1 3, hs37.a M1 4⟩) (fun hHeld => ?_)
    clear hKK KK
    try simp only [nm]
    refine rd1 6 fun KK hKK => ?_
    go_simp
    have hs38 := (hs37.push #[.int .i64 k1, .string t1, .int .i64 n1, .int .i64 a1, .slice A1 ks1.length cap1, .int .i64 k36, .string t36, .int .i64 n36, .int .i64 a36, .slice A36 ks36.length cap36] 25); try simp only [sz] at hs38
    clear hs37
    revert hs38
    generalize World.alloc _ _ = wq39
    intro hs38
    clear hHeld
    refine hKK.out _ _ (⟨hs38.a M1 1, hs38.a M2 0, hs38.a M2 1, hs38.a M2 2, hs38.a M2 3, hs38.a M2 4⟩) (fun hHeld => ?_)
    clear hKK KK
    refine tk 7 (h := ?_)
    try simp only [nm]
    refine rd1 8 fun KK hKK => ?_
    have a40R := F5 hs38 M3
    go_simp
    clear a40R
    have hs41 := (hs38.swap4.set5 (.int .i64 20) (.string (E.tok s1.i).str) (.int .i64 0) (.int .i64 (E.tok s.i).at_) (.slice (some ⟨w36.heap.size, 0, none⟩) 2 2)); try simp only [sz] at hs41
    clear hs38
    revert hs41
    generalize World.setCell _ _ _ = wq42
    intro hs41
    clear hHeld
    refine hKK.out _ _ (⟨hs41.a M2 1, hs41.a M3 0, hs41.a M3 1, hs41.a M3 2, hs41.a M3 3, hs41.a M3 4⟩) (fun hHeld => ?_)
    clear hKK KK
    try simp only [nm]
    refine wpAnyG_done (by kernel_rfl) ?_ _
    have HS43 := Lib.hid hs41; try simp only [sz] at HS43
    clear hs41
    go_wp2_with fail
    have hs45 := (HS43.swap.node [(.mk k1 t1 n1 a1 ks1, .agg #[.int .i64 k1, .string t1, .int .i64 n1, .int .i64 a1, .slice A1 ks1.length cap1]), (.mk k36 t36 n36 a36 ks36, .agg #[.int .i64 k36, .string t36, .int .i64 n36, .int .i64 a36, .slice A36 ks36.length cap36])] rfl (memC M1 (memC M0 (mem0 _))) (k := 20) (sx := (E.tok s1.i).str) (n := 0) (a := (E.tok s.i).at_) ok_lit ok_lit (hE.at_ _) (hE.str _) (l := 2) rfl (by decide))
    refine St.fin (slot := 2) rfl hs45 rfl (hs45.bx.tr _ M0) ?_
    exact HSP36.out
   | false =>
   have HSP34 := HSP33; try simp only [p12, sm, reduceIte] at HSP34
   have p12t : ((E.tok s1.i).str.toList == [62, 62, 61]) = false := str_eq _ _ p12
   have hbk : wrap64 ((((adv s1 1).i : Nat) : Int) - 1) = (s1.i : Int) := by rw [← IntWalk.i64_left, IntWalk.i64_in _ (by simp only [adv]; omega)]; simp only [adv]; omega
   have HS35 := Lib.hid (HS20.setI hE s1.i (Nat.le_of_lt hlt)); try simp only [sz] at HS35
   have a36 := J3 (F3 HS35 M0) (F5 HS35 M1) (F5 HS35 M2)
   go_wp2_with fail
   go_at_call 44
   refine (fail_any hE HS35.rd).mono ?_
   rintro e wz ⟨rfl, hbz⟩
   exact ⟨rfl, bad_end (HSP34.out).symm (HS35.below hbz).fp⟩
  | false =>
  have HSP18 := HSP17; try simp only [hk, sm, reduceIte] at HSP18
  have hk1 : ((E.tok s1.i).kind == 7) = false := hk
  have hk2 : ((E.tok s1.i).kind != 7) = true := by simp only [bne, hk1, Bool.not_false]
  go_wp2_with fail
  go_at_call 44
  refine (fail_any hE HS15.rd).mono ?_
  rintro e wz ⟨rfl, hbz⟩
  exact ⟨rfl, bad_end (HSP18.out).symm (HS15.below hbz).fp⟩

end
end Go.Proofs.YtokhfhibdeneeaaGreatDoor
