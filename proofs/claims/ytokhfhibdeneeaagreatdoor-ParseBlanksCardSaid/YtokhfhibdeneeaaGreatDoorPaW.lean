/- A switch's parts: the closures, cased. -/
import Derived.Deep.LoopGhost
import Derived.Test.YtokhfhibdeneeaaGreatDoorMPaM
import Derived.Test.YtokhfhibdeneeaaGreatDoorMLiesP
import Derived.Test.YtokhfhibdeneeaaGreatDoorPaT
namespace Go.Proofs.YtokhfhibdeneeaaGreatDoor
open Go.RowKit
section
variable {E : Env} {M : Rm} {w0 W w1 W' : World} {rows : List Rw} {gs : Option Gv} {ts : List (Nd × Value)} {st s s' : Rs} {K : Kn} {g : Gv}
/-- A function value that reads a part: with what it is called, what it asks of the world. -/
structure PartOk (E : Env) (M : Rm) (part : Rs → Rr Nd) (f : FuncId) (args : Array Value) (S : World → Prop) : Prop where
 ent : ∀ W, Sem.run Tryz.prog (callFunc f args) W = .ok (.enter f args) W
 run : ∀ s W, RdAt E M s W → S W → part s ≠ .out → Calls Tryz.prog f args W (Post E M VNd W (part s))
 keep : ∀ W W', Fp M.bp W W' → S W → S W'

theorem PartOk.l {E : Env} {M : Rm} {part : Rs → Rr Nd} {f : FuncId} {x : Value} {S : World → Prop} (h : PartOk E M part f #[x] S) : PartOk E M part f (#[x] ++ #[]) S := by simpa using h
theorem PartOk.r {E : Env} {M : Rm} {part : Rs → Rr Nd} {f : FuncId} {x : Value} {S : World → Prop} (h : PartOk E M part f #[x] S) : PartOk E M part f (#[] ++ #[x]) S := by simpa using h

set_option maxRecDepth 100000 in
set_option maxHeartbeats 4000000 in
theorem choice1_rd (hE : EnvOk E M) {rb : Nat} (hq : W.cell? ⟨rb, 0, none⟩ = some (.pointer (some ⟨M.bp, 0, none⟩))) (hlt : rb < W.heap.size) (hne0 : rb ≠ M.bp) (h : RdAt E M s W) :
 Calls Tryz.prog 228 #[.pointer (some ⟨rb, 0, none⟩)] W (Post E M VNd W (typ1R E [[109, 97, 112], [102, 117, 110, 99], [97, 110, 121], [110, 105, 108]] s)) := by
 obtain ⟨R, HR⟩ : ∃ R, Hid (typ1R E [[109, 97, 112], [102, 117, 110, 99], [97, 110, 121], [110, 105, 108]] s = R) := ⟨_, rfl⟩
 have hneR : R ≠ .out := by rw [← HR.out]; exact typ1_ne _ s
 rw [HR.out]
 have HNE := Lib.hid hneR
 have HSP0 := HR
 have q0 := hq
 have HS1 := Lib.hid ((St.init h).pz)
 have qa0 := (World.cell?_of_block (w := W) (HS1.fp.block hlt hne0)).trans hq
 have a1R := F5 HS1 M0
 have HQ := Lib.hid (And.intro hq (And.intro hlt hne0))
 clear hneR HR h hq hlt hne0
 go_enter Tryz.func228, Tryz.ntmps228
 go_wp2_with fail
 have hs2 := (HS1.push #[.string ⟨#[109, 97, 112]⟩, .string ⟨#[102, 117, 110, 99]⟩, .string ⟨#[97, 110, 121]⟩, .string ⟨#[110, 105, 108]⟩] 9)
 simp only [World.size_alloc] at hs2
 clear a1R q0 qa0
 go_at_call 191
 refine Post.use (bind_okR HSP0.out) HNE.out (fun h0 => typ1_rd hE hs2.rd (hs2.words M0 [[109, 97, 112], [102, 117, 110, 99], [97, 110, 121], [110, 105, 108]] rfl rfl (by decide) (by decide) (by decide))) (be hs2.fp) ?_
 intro x3 s3 v3 w3 hsp3 hv3 hr3 hf3
 obtain ⟨k3, t3, n3, a3, ks3⟩ := x3
 obtain ⟨A3, cap3, rfl⟩ := VNd.form hv3
 have HS4 := Lib.hid (hs2.read hr3 hf3 hv3); try simp only [sz] at HS4
 have a5R := F5 HS4 M1
 clear hs2
 have HSP3 := Lib.hid hsp3
 clear hsp3 hr3 hf3
 go_wp2_with fail
 have hs6 := (HS4.swap.set5 (.int .i64 k3) (.string t3) (.int .i64 n3) (.int .i64 a3) (.slice A3 ks3.length cap3))
 refine St.fin (slot := 1) rfl hs6 rfl (hs6.bx.tr _ M0) ?_
 exact HSP3.out

set_option maxRecDepth 100000 in
theorem part_types (hE : EnvOk E M) {rb : Nat} : PartOk E M (typ1R E [[109, 97, 112], [102, 117, 110, 99], [97, 110, 121], [110, 105, 108]]) 228 #[.pointer (some ⟨rb, 0, none⟩)] (fun W => W.cell? ⟨rb, 0, none⟩ = some (.pointer (some ⟨M.bp, 0, none⟩)) ∧ rb < W.heap.size ∧ rb ≠ M.bp) :=
 ⟨fun _W => rfl, fun _s _W h hS _ => choice1_rd hE hS.1 hS.2.1 hS.2.2 h, fun W _W' hf hS => ⟨(World.cell?_of_block (w := W) (hf.block hS.2.1 hS.2.2)).trans hS.1, Nat.lt_of_lt_of_le hS.2.1 (Foot.size hf), hS.2.2⟩⟩
set_option maxRecDepth 100000 in
theorem part_expr (hK : KOK E M K) : PartOk E M K.expr 37 #[.pointer (some ⟨M.bp, 0, none⟩)] (fun _ => True) :=
 ⟨fun _W => rfl, fun s W h _ h0 => hK.expr s W h h0, fun _ _ _ _ => trivial⟩

set_option maxRecDepth 100000 in
set_option maxHeartbeats 4000000 in
theorem cased_rd (hE : EnvOk E M) (hK : KOK E M K) {part : Rs → Rr Nd} {f : FuncId} {fi ca : Array Value} {S : World → Prop} (hP : PartOk E M part f (fi ++ ca) S) (hS : S W) (h : RdAt E M s W) (hne : casedR E K part s ≠ .out) :
 Calls Tryz.prog 230 #[.pointer (some ⟨M.bp, 0, none⟩), .func (.func f) fi ca] W (Post E M VNd W (casedR E K part s)) := by
 obtain ⟨R, HR⟩ : ∃ R, Hid (casedR E K part s = R) := ⟨_, rfl⟩
 have hneR : R ≠ .out := by rw [← HR.out]; exact hne
 clear hne
 rw [HR.out]
 have HNE := Lib.hid hneR
 have HSP0 := HR
 unfold casedR at HSP0
 have hent := hP.ent
 have HPR := Lib.hid hP.run
 have HPK := Lib.hid hP.keep
 have HSW := Lib.hid hS
 clear hP hS
 obtain ⟨i0, hi0, hz0, hz1, hz2⟩ := info_parts infoNd
 have hfu := hK.fuel
 have HS1 := Lib.hid ((St.init h).pz)
 have a1R := F5 HS1 M0
 have hfi0 := fieldTok0
 have hfi1 := fieldTok1
 have hfi2 := fieldTok2
 have hfn0 := fieldNd0
 have hfn1 := fieldNd1
 have hn0 := hE.n
 clear hneR HR h
 go_enter Tryz.func230, Tryz.ntmps230
 go_wp2_with fail
 go_at_call 42
 refine (at0_rd hE HS1.rd).mono ?_
 rintro e w2 ⟨rfl, hb2⟩
 clear a1R
 have HS3 := Lib.hid (((HS1.below hb2).push #[.int .i64 (E.tok s.i).kind, .string (E.tok s.i).str, .int .i64 (E.tok s.i).at_] 46).push #[.int .i64 27, .string ⟨#[]⟩, .int .i64 0, .int .i64 (E.tok s.i).at_, .slice none 0 0] 25); try simp only [sz] at HS3
 have a4 := J3 (F5 HS3 M0) (F3 HS3 M1) (F5 HS3 M2)
 clear hb2
 cases hd : isT E s [100, 101, 102, 97, 117, 108, 116] with
 | true =>
  have HSP5 := HSP0; try simp only [hd, reduceIte] at HSP5
  have htk5 : takeS E [100, 101, 102, 97, 117, 108, 116] s = adv s 1 := by rw [takeS, hd]; rfl
  go_wp2_with fail
  go_at_call 86
  refine (take_any hE HS3.rd ⟨#[100, 101, 102, 97, 117, 108, 116]⟩ [100, 101, 102, 97, 117, 108, 116] rfl).mono ?_
  rw [hd]
  rw [htk5]
  rintro e w6 ⟨rfl, hr6, hf6⟩
  clear a4
  have HS7 := Lib.hid (HS3.go hr6 hf6); try simp only [sz] at HS7
  have a8 := J3 (F5 HS7 M0) (F3 HS7 M1) (F5 HS7 M2)
  clear hr6 hf6
  have HSP9 := HSP5; try simp only [bind_assocR, sm] at HSP9
  go_wp2_with fail
  go_at_call 145
  refine (none_rd hE HS7.rd).mono ?_
  rintro e w10 ⟨rfl, hb10⟩
  clear a8
  have HS11 := Lib.hid (HS7.below hb10); try simp only [sz] at HS11
  have a12 := J3 (F5 HS11 M0) (F3 HS11 M1) (F5 HS11 M2)
  clear hb10
  have HS13 := Lib.hid (HS11.push #[.int .i64 16, .string ⟨#[]⟩, .int .i64 0, .int .i64 (cur E (adv s 1)).at_, .slice none 0 0] 25); try simp only [sz] at HS13
  have a14 := J4 (F5 HS13 M0) (F5 HS13 M1) (F3 HS13 M2) (F5 HS13 M3)
  have HS16 := Lib.hid ((HS13.swap.setRow 4 (.slice (some ⟨w10.heap.size, 0, none⟩) 1 1)).tree (t := .mk 16 ⟨#[]⟩ 0 (cur E (adv s 1)).at_ []) (v := .agg #[.int .i64 16, .string ⟨#[]⟩, .int .i64 0, .int .i64 (cur E (adv s 1)).at_, .slice none 0 0]) (LiesP.leaf ok_lit ok_lit (hE.at_ _) (by decide))); try simp only [sz] at HS16
  have a17 := J4 (F5 HS16 M0) (F5 HS16 M1) (F3 HS16 M2) (F5 HS16 M3)
  go_wp2_with fail
  go_at_call 90
  refine Post.use HSP9.out HNE.out (fun _ => want_tk hE HS16.rd ⟨#[58]⟩ [58] rfl) (be HS16.fp) ?_
  intro x18 s18 v18 w18 hsp18 hv18 hr18 hf18
  obtain ⟨hv18, j18, rfl⟩ := hv18
  obtain rfl : v18 = _ := hv18
  clear a12 a14 a17
  have HS19 := Lib.hid (HS16.go hr18 hf18); try simp only [sz] at HS19
  have a20N := F5 HS19 M0
  have a20L := F5 HS19 M1
  have a20 := J2 (F3 HS19 M2) (F5 HS19 M3)
  have HSP18 := Lib.hid hsp18
  clear hsp18 hr18 hf18
  have HSP21 := HSP18; try simp only [Rr.bind_ok, sm, reduceIte] at HSP21
  clear a20N a20L a20
  have HS22 := Lib.hid ((HS19.swap3.retire.swap3.swap.swap3.mono_ts (memC M0 (mem0 _))).growN (xs := [(.mk 16 ⟨#[]⟩ 0 (cur E (adv s 1)).at_ [], .agg #[.int .i64 16, .string ⟨#[]⟩, .int .i64 0, .int .i64 (cur E (adv s 1)).at_, .slice none 0 0])]) rfl (memC M0 (mem0 _)) rfl (by decide) ok_lit ok_lit (hE.at_ _) (by decide)); try simp only [sz] at HS22
  have a23R := F5 HS22 M0
  have gg23 := HS22.gcells
  go_wp2_with fail
  clear a23R gg23
  have hs24 := HS22.drew
  refine wp_region_G [8] (fun Wx => Wx.cell? ⟨(w2.heap.size + 1), 4, none⟩ = some (.slice (some ⟨w10.heap.size, 0, none⟩) 1 1)) (by rfl) ?_ (fun hHeld => ?_)
  · exact hs24.gcells.2.2.2.2.1
  revert hs24 hHeld
  generalize World.drew _ = wd24
  intro hs24 hHeld
  refine tk 0 (h := tk 1 (h := tk 2 (h := tk 3 (h := ?_))))
  try simp only [nm]
  refine rd1 4 fun KK hKK => ?_
  go_simp
  go_at_call 40
  refine Post.nd HSP21 HNE (fun h0 => hK.stmts _ _ _ (hE.at_ _) hs24.rd h0) (be hs24.fp) ?_
  intro k25 t25 n25 a25 ks25 s25 A25 cap25 w25 HSP25 hv25 hr25 hf25
  have hs26 := (hs24.read hr25 hf25 hv25); try simp only [sz] at hs26
  clear hs24 hHeld
  refine hKK.out _ _ (hs26.gcells.2.2.2.2.1) (fun hHeld => ?_)
  clear hKK KK
  try simp only [nm]
  refine rd1 5 fun KK hKK => ?_
  go_simp
  have hs27 := (hs26.pn k25 t25 n25 a25 (.slice A25 ks25.length cap25)); try simp only [sz] at hs27
  clear hs26
  revert hs27
  generalize World.alloc _ _ = wq28
  intro hs27
  clear hHeld
  refine hKK.out _ _ (hs27.gcells.2.2.2.2.1) (fun hHeld => ?_)
  clear hKK KK
  try simp only [nm]
  refine rd1 6 fun KK hKK => ?_
  refine apl 53 57 hs27 M0 1 (h := ?_)
  intro b29 capb29 w29 ho29 hg29 hb29 hbl29
  obtain ⟨he29, ef29, n429, nf29, hne29, hbox29, hlen29⟩ := hs27.newElem rfl ho29 hg29 hb29
  obtain ⟨e29_0, e29_1, e29_2, e29_3, e29_4⟩ := he29
  have hnx29 : ((w2.heap.size + 1) = b29) = False := by simpa using fun e => hne29 e.symm
  have hny29 : (b29 = (w2.heap.size + 1)) = False := by simpa using hne29
  have HSF29 := Lib.hid (And.intro hs27 (And.intro ho29 (And.intro hg29 (And.intro hb29 (And.intro hbox29 hlen29)))))
  clear hs27 ho29 hg29 hb29 hHeld
  refine hKK.out _ _ (n429) (fun hHeld => ?_)
  clear hKK KK
  refine tk 7 (h := ?_)
  try simp only [nm]
  refine rl1 8 fun KK hKK => ?_
  go_simp
  clear hHeld
  refine hKK.out _ _ ?_
  clear hKK KK
  try simp only [nm]
  refine wpAny_done (by kernel_rfl) ?_ _
  have hA29 := AppTo.whole (lo := W.heap.size) HSF29.out.2.1 HSF29.out.2.2.2.2.1 (fun e => hne29 e.symm)
  have HS30 := Lib.hid (HSF29.out.1.appendedN (m := 1) (N := 1) (zs := [.int .i64 k25, .string t25, .int .i64 n25, .int .i64 a25, .slice A25 ks25.length cap25]) rfl rfl HSF29.out.2.1 HSF29.out.2.2.1 HSF29.out.2.2.2.1 (ys := [(.mk k25 t25 n25 a25 ks25, .agg #[.int .i64 k25, .string t25, .int .i64 n25, .int .i64 a25, .slice A25 ks25.length cap25])]) (memC M0 (mem0 _)) hA29 rfl); try simp only at HS30
  have a31L := F5 HS30 M0
  have a31R := F5 HS30 M1
  have gg31 := HS30.gcells
  go_wp2_with fail
  have hs32 := (HS30.retire.set5 (.int .i64 27) (.string ⟨#[]⟩) (.int .i64 0) (.int .i64 (E.tok s.i).at_) (.slice (some ⟨b29, 0, none⟩) (1 + 1) capb29)).grown
  refine St.fin (slot := 4) rfl hs32 rfl (hs32.bx.tr _ M0) ?_
  exact HSP25.out
 | false =>
 have HSP5 := HSP0; try simp only [hd, sm, reduceIte] at HSP5
 have htk5 : takeS E [100, 101, 102, 97, 117, 108, 116] s = s := by rw [takeS, hd]; rfl
 go_wp2_with fail
 go_at_call 86
 refine (take_any hE HS3.rd ⟨#[100, 101, 102, 97, 117, 108, 116]⟩ [100, 101, 102, 97, 117, 108, 116] rfl).mono ?_
 rw [hd]
 rw [htk5]
 rintro e w6 ⟨rfl, hr6, hf6⟩
 clear a4
 have HS7 := Lib.hid (HS3.go hr6 hf6); try simp only [sz] at HS7
 have a8 := J3 (F5 HS7 M0) (F3 HS7 M1) (F5 HS7 M2)
 clear hr6 hf6
 have HSP9 := HSP5; try simp only [bind_assocR, sm] at HSP9
 go_wp2_with fail
 go_at_call 90
 refine Post.use HSP9.out HNE.out (fun _ => want_any hE HS7.rd ⟨#[99, 97, 115, 101]⟩ [99, 97, 115, 101] rfl) (be HS7.fp) ?_
 intro x10 s10 v10 w10 hsp10 hv10 hr10 hf10
 obtain rfl : v10 = _ := hv10
 clear a8
 have HS11 := Lib.hid (HS7.go hr10 hf10); try simp only [sz] at HS11
 have a12 := J3 (F5 HS11 M0) (F3 HS11 M1) (F5 HS11 M2)
 have HSP10 := Lib.hid hsp10
 clear hsp10 hr10 hf10
 go_wp2_with fail
 go_at_call 42
 refine (at0_rd hE HS11.rd).mono ?_
 rintro e w13 ⟨rfl, hb13⟩
 clear a12
 have HS14 := Lib.hid (HS11.below hb13); try simp only [sz] at HS14
 have a15 := J3 (F5 HS14 M0) (F3 HS14 M1) (F5 HS14 M2)
 clear hb13
 go_wp2_with fail
 refine Post.use HSP10.out HNE.out (fun h0 => HPR.out _ _ HS14.rd (HPK.out _ _ HS14.fp HSW.out) h0) (be HS14.fp) ?_
 intro x16 s16 v16 w16 hsp16 hv16 hr16 hf16
 obtain ⟨k16, t16, n16, a16, ks16⟩ := x16
 obtain ⟨A16, cap16, rfl⟩ := VNd.form hv16
 clear a15
 have hs17 := ((HS14.read hr16 hf16 hv16).pn k16 t16 n16 a16 (.slice A16 ks16.length cap16)); try simp only [sz] at hs17
 obtain ⟨q18_LL0, q18_LL1, q18_LL2, q18_LL3, q18_LL4, y18_LL0, y18_LL1, y18_LL2, y18_LL3, y18_LL4⟩ := hs17.bx.c5 M0
 have a18 := J3 (F5 hs17 M1) (F3 hs17 M2) (F5 hs17 M3)
 have HS17 := Lib.hid hs17
 clear hs17
 have HSP16 := Lib.hid hsp16
 clear hsp16 hr16 hf16
 have hs19 := (HS17.push #[.int .i64 38, .string ⟨#[]⟩, .int .i64 0, .int .i64 (E.tok s10.i).at_, .slice (some ⟨w16.heap.size, 0, none⟩) 1 1] 25); try simp only [sz] at hs19
 have a20Q := F5 hs19 M0
 obtain ⟨q20_LL0, q20_LL1, q20_LL2, q20_LL3, q20_LL4, y20_LL0, y20_LL1, y20_LL2, y20_LL3, y20_LL4⟩ := hs19.bx.c5 M1
 have a20 := J3 (F5 hs19 M2) (F3 hs19 M3) (F5 hs19 M4)
 have HS19 := Lib.hid hs19
 clear hs19 q18_LL0 q18_LL1 q18_LL2 q18_LL3 q18_LL4 y18_LL0 y18_LL1 y18_LL2 y18_LL3 y18_LL4 a18 a20Q q20_LL0 q20_LL1 q20_LL2 q20_LL3 q20_LL4 y20_LL0 y20_LL1 y20_LL2 y20_LL3 y20_LL4 a20
 go_wp2_with fail
 go_loopg [] K.fuel (fun f wr => ∃ (s2 : Rs) (A2 : Option Addr) (cap2 : Nat) (xs : List (Nd × Value)), xs.length + f ≤ K.fuel + 1 ∧ Hid (St E M W [((w2.heap.size + 1), #[.int .i64 27, .string ⟨#[]⟩, .int .i64 0, .int .i64 (E.tok s.i).at_, .slice none 0 0], 25), (w2.heap.size, #[.int .i64 (E.tok s.i).kind, .string (E.tok s.i).str, .int .i64 (E.tok s.i).at_], 46), (W.heap.size, #[.int .i64 0, .string ⟨#[]⟩, .int .i64 0, .int .i64 0, .slice none 0 0], 25)] (some ⟨(w16.heap.size + 1), 38, ⟨#[]⟩, 0, (E.tok s10.i).at_, .slice A2 xs.length cap2, xs⟩) [] s2 wr) ∧ Hid ((moreL E part f (.mk 38 (bs []) 0 (E.tok s10.i).at_ (xs.map (fun x : Nd × Value => x.1))) s2).bind (fun l s2 => (wantR E [58] s2).bind fun t s2 => (K.stmts t.at_ s2).bind fun b s1 => .ok (Nd.mk 27 (bs []) 0 (E.tok s.i).at_ [l, b]) s1) = R))
 case atStart => exact ⟨_, _, _, [(.mk k16 t16 n16 a16 ks16, .agg #[.int .i64 k16, .string t16, .int .i64 n16, .int .i64 a16, .slice A16 ks16.length cap16])], by simp; omega, ((HS19.swap5.swap5.swap5.swap4.swap5.mono_ts (memC M0 (mem0 _))).growN (xs := [(.mk k16 t16 n16 a16 ks16, .agg #[.int .i64 k16, .string t16, .int .i64 n16, .int .i64 a16, .slice A16 ks16.length cap16])]) rfl (memC M0 (mem0 _)) rfl (by decide) ok_lit ok_lit (hE.at_ _) (by decide)).mono_ts (mem0 _), HSP16.out⟩
 case round =>
  obtain ⟨s2, A2, cap2, xs, hxf, HL2, HSL2⟩ := hrel
  cases gk with
  | zero => exact absurd HSL2.symm HNE.out
  | succ g =>
  have hspu := HSL2.out
  rw [moreL] at hspu
  have HSU := Lib.hid hspu
  clear hspu
  have a21 := J3 (F5 HL2 M0) (F3 HL2 M1) (F5 HL2 M2)
  have gg21 := HL2.gcells
  cases hc : isT E s2 [44] with
  | true =>
   have HSP22 := HSU; try simp only [hc, reduceIte] at HSP22
   have htk22 : takeS E [44] s2 = adv s2 1 := by rw [takeS, hc]; rfl
   go_wp2_with fail
   go_at_call 86
   refine (take_any hE HL2.rd ⟨#[44]⟩ [44] rfl).mono ?_
   rw [hc]
   rw [htk22]
   rintro e w23 ⟨rfl, hr23, hf23⟩
   clear a21 gg21
   have HS24 := Lib.hid (HL2.go hr23 hf23); try simp only [sz] at HS24
   have a25 := J3 (F5 HS24 M0) (F3 HS24 M1) (F5 HS24 M2)
   have gg25 := HS24.gcells
   clear hr23 hf23
   cases hm : isT E (adv s2 1) [58] with
   | true =>
    have HSP26 := HSP22; try simp only [hm, sm, reduceIte] at HSP26
    go_wp2_with fail
    go_at_call 139
    refine (is_any hE HS24.rd ⟨#[58]⟩ [58] rfl).mono ?_
    rw [hm]
    rintro e w27 ⟨rfl, hb27⟩
    clear a25 gg25
    have HS28 := Lib.hid (HS24.below hb27); try simp only [sz] at HS28
    have a29 := J3 (F5 HS28 M0) (F3 HS28 M1) (F5 HS28 M2)
    have gg29 := HS28.gcells
    clear hb27 a29 gg29
    have HS30 := Lib.hid (HS28.ungrow); try simp only at HS30
    have a31 := J4 (F5 HS30 M0) (F5 HS30 M1) (F3 HS30 M2) (F5 HS30 M3)
    have HS32 := Lib.hid (HS30.push #[.int .i64 38, .string ⟨#[]⟩, .int .i64 0, .int .i64 (E.tok s10.i).at_, .slice A2 xs.length cap2] 25); try simp only [sz] at HS32
    have a33 := J5 (F5 HS32 M0) (F5 HS32 M1) (F5 HS32 M2) (F3 HS32 M3) (F5 HS32 M4)
    have HS34 := Lib.hid (HS32.swap3.setRow 4 (.slice (some ⟨w27.heap.size, 0, none⟩) 1 1)); try simp only [sz] at HS34
    have a35 := J5 (F5 HS34 M0) (F5 HS34 M1) (F5 HS34 M2) (F3 HS34 M3) (F5 HS34 M4)
    go_wp2_with fail
    go_at_call 90
    refine Post.use HSP26.out HNE.out (fun _ => want_tk hE HS34.rd ⟨#[58]⟩ [58] rfl) (be HS34.fp) ?_
    intro x36 s36 v36 w36 hsp36 hv36 hr36 hf36
    obtain ⟨hv36, j36, rfl⟩ := hv36
    obtain rfl : v36 = _ := hv36
    clear a31 a33 a35
    have HS37 := Lib.hid (HS34.go hr36 hf36); try simp only [sz] at HS37
    have a38 := J5 (F5 HS37 M0) (F5 HS37 M1) (F5 HS37 M2) (F3 HS37 M3) (F5 HS37 M4)
    have HSP36 := Lib.hid hsp36
    clear hsp36 hr36 hf36 a38
    have HS39 := Lib.hid ((HS37.swap3.retire.swap3.retire.swap3.swap.swap3.mono_ts (memC M0 (mem0 _))).growN (xs := [(Nd.mk 38 ⟨#[]⟩ 0 (E.tok s10.i).at_ (xs.map (fun x : Nd × Value => x.1)), Value.agg #[.int .i64 38, .string ⟨#[]⟩, .int .i64 0, .int .i64 (E.tok s10.i).at_, .slice A2 xs.length cap2])]) rfl (memC M0 (mem0 _)) rfl (by decide) ok_lit ok_lit (hE.at_ _) (by decide)); try simp only [sz] at HS39
    have a40R := F5 HS39 M0
    have gg40 := HS39.gcells
    go_wp2_with fail
    clear a40R gg40
    have hs41 := HS39.drew
    refine wp_region_G [8] (fun Wx => Wx.cell? ⟨(w2.heap.size + 1), 4, none⟩ = some (.slice (some ⟨w27.heap.size, 0, none⟩) 1 1)) (by rfl) ?_ (fun hHeld => ?_)
    · exact hs41.gcells.2.2.2.2.1
    revert hs41 hHeld
    generalize World.drew _ = wd41
    intro hs41 hHeld
    refine tk 0 (h := tk 1 (h := tk 2 (h := tk 3 (h := ?_))))
    try simp only [nm]
    refine rd1 4 fun KK hKK => ?_
    go_simp
    go_at_call 40
    refine Post.nd HSP36 HNE (fun h0 => hK.stmts _ _ _ (hE.at_ _) hs41.rd h0) (be hs41.fp) ?_
    intro k42 t42 n42 a42 ks42 s42 A42 cap42 w42 HSP42 hv42 hr42 hf42
    have hs43 := (hs41.read hr42 hf42 hv42); try simp only [sz] at hs43
    clear hs41 hHeld
    refine hKK.out _ _ (hs43.gcells.2.2.2.2.1) (fun hHeld => ?_)
    clear hKK KK
    try simp only [nm]
    refine rd1 5 fun KK hKK => ?_
    go_simp
    have hs44 := (hs43.pn k42 t42 n42 a42 (.slice A42 ks42.length cap42)); try simp only [sz] at hs44
    clear hs43
    revert hs44
    generalize World.alloc _ _ = wq45
    intro hs44
    clear hHeld
    refine hKK.out _ _ (hs44.gcells.2.2.2.2.1) (fun hHeld => ?_)
    clear hKK KK
    try simp only [nm]
    refine rd1 6 fun KK hKK => ?_
    refine apl 53 57 hs44 M0 1 (h := ?_)
    intro b46 capb46 w46 ho46 hg46 hb46 hbl46
    obtain ⟨he46, ef46, n446, nf46, hne46, hbox46, hlen46⟩ := hs44.newElem rfl ho46 hg46 hb46
    obtain ⟨e46_0, e46_1, e46_2, e46_3, e46_4⟩ := he46
    have hnx46 : ((w2.heap.size + 1) = b46) = False := by simpa using fun e => hne46 e.symm
    have hny46 : (b46 = (w2.heap.size + 1)) = False := by simpa using hne46
    have HSF46 := Lib.hid (And.intro hs44 (And.intro ho46 (And.intro hg46 (And.intro hb46 (And.intro hbox46 hlen46)))))
    clear hs44 ho46 hg46 hb46 hHeld
    refine hKK.out _ _ (n446) (fun hHeld => ?_)
    clear hKK KK
    refine tk 7 (h := ?_)
    try simp only [nm]
    refine rl1 8 fun KK hKK => ?_
    go_simp
    clear hHeld
    refine hKK.out _ _ ?_
    clear hKK KK
    try simp only [nm]
    refine wpAny_done (by kernel_rfl) ?_ _
    have hA46 := AppTo.whole (lo := W.heap.size) HSF46.out.2.1 HSF46.out.2.2.2.2.1 (fun e => hne46 e.symm)
    have HS47 := Lib.hid (HSF46.out.1.appendedN (m := 1) (N := 1) (zs := [.int .i64 k42, .string t42, .int .i64 n42, .int .i64 a42, .slice A42 ks42.length cap42]) rfl rfl HSF46.out.2.1 HSF46.out.2.2.1 HSF46.out.2.2.2.1 (ys := [(.mk k42 t42 n42 a42 ks42, .agg #[.int .i64 k42, .string t42, .int .i64 n42, .int .i64 a42, .slice A42 ks42.length cap42])]) (memC M0 (mem0 _)) hA46 rfl); try simp only at HS47
    have a48 := J2 (F5 HS47 M0) (F5 HS47 M1)
    have gg48 := HS47.gcells
    go_wp2_with fail
    have hs49 := (HS47.retire.set5 (.int .i64 27) (.string ⟨#[]⟩) (.int .i64 0) (.int .i64 (E.tok s.i).at_) (.slice (some ⟨b46, 0, none⟩) (1 + 1) capb46)).grown
    refine St.fin (slot := 4) rfl hs49 rfl (hs49.bx.tr _ M0) ?_
    exact HSP42.out
   | false =>
   have HSP26 := HSP22; try simp only [hm, sm, reduceIte] at HSP26
   have HSP27 := HSP26; try simp only [bind_assocR] at HSP27
   go_wp2_with fail
   go_at_call 139
   refine (is_any hE HS24.rd ⟨#[58]⟩ [58] rfl).mono ?_
   rw [hm]
   rintro e w28 ⟨rfl, hb28⟩
   clear a25 gg25
   have HS29 := Lib.hid (HS24.below hb28); try simp only [sz] at HS29
   have a30 := J3 (F5 HS29 M0) (F3 HS29 M1) (F5 HS29 M2)
   have gg30 := HS29.gcells
   clear hb28
   go_wp2_with fail
   clear a30 gg30
   have hs31 := HS29.drew
   refine wp_region_G [7] (fun Wx => Wx.cell? ⟨(w16.heap.size + 1), 4, none⟩ = some (.slice A2 xs.length cap2)) (by rfl) ?_ (fun hHeld => ?_)
   · exact hs31.gcells.2.2.2.2.1
   revert hs31 hHeld
   generalize World.drew _ = wd31
   intro hs31 hHeld
   refine tk 0 (h := tk 1 (h := tk 2 (h := ?_)))
   try simp only [nm]
   refine rd1 3 fun KK hKK => ?_
   go_simp
   refine Post.nd HSP27 HNE (fun h0 => HPR.out _ _ hs31.rd (HPK.out _ _ hs31.fp HSW.out) h0) (be hs31.fp) ?_
   intro k32 t32 n32 a32 ks32 s32 A32 cap32 w32 HSP32 hv32 hr32 hf32
   have hs33 := (hs31.read hr32 hf32 hv32); try simp only [sz] at hs33
   clear hs31 hHeld
   refine hKK.out _ _ (hs33.gcells.2.2.2.2.1) (fun hHeld => ?_)
   clear hKK KK
   try simp only [nm]
   refine rd1 4 fun KK hKK => ?_
   go_simp
   have hs34 := (hs33.pn k32 t32 n32 a32 (.slice A32 ks32.length cap32)); try simp only [sz] at hs34
   clear hs33
   revert hs34
   generalize World.alloc _ _ = wq35
   intro hs34
   clear hHeld
   refine hKK.out _ _ (hs34.gcells.2.2.2.2.1) (fun hHeld => ?_)
   clear hKK KK
   try simp only [nm]
   refine rd1 5 fun KK hKK => ?_
   refine apl 40 43 hs34 M0 xs.length (h := ?_)
   intro b36 capb36 w36 ho36 hg36 hb36 hbl36
   obtain ⟨he36, ef36, n436, nf36, hne36, hbox36, hlen36⟩ := hs34.newElem rfl ho36 hg36 hb36
   obtain ⟨e36_0, e36_1, e36_2, e36_3, e36_4⟩ := he36
   have hnx36 : ((w16.heap.size + 1) = b36) = False := by simpa using fun e => hne36 e.symm
   have hny36 : (b36 = (w16.heap.size + 1)) = False := by simpa using hne36
   have HSF36 := Lib.hid (And.intro hs34 (And.intro ho36 (And.intro hg36 (And.intro hb36 (And.intro hbox36 hlen36)))))
   clear hs34 ho36 hg36 hb36 hHeld
   refine hKK.out _ _ (n436) (fun hHeld => ?_)
   clear hKK KK
   refine tk 6 (h := ?_)
   try simp only [nm]
   refine rl1 7 fun KK hKK => ?_
   go_simp
   clear hHeld
   refine hKK.out _ _ ?_
   clear hKK KK
   try simp only [nm]
   refine wpAny_done (by kernel_rfl) ?_ _
   have hA36 := AppTo.whole (lo := W.heap.size) HSF36.out.2.1 HSF36.out.2.2.2.2.1 (fun e => hne36 e.symm)
   go_wp2_with fail
   go_roundg g
   case measure => omega
   case rel => exact ⟨_, _, _, xs ++ [(.mk k32 t32 n32 a32 ks32, .agg #[.int .i64 k32, .string t32, .int .i64 n32, .int .i64 a32, .slice A32 ks32.length cap32])], by simp; omega, Lib.hid (by simpa using (HSF36.out.1.appendedN (m := xs.length) (N := 1) (zs := [.int .i64 k32, .string t32, .int .i64 n32, .int .i64 a32, .slice A32 ks32.length cap32]) rfl rfl HSF36.out.2.1 HSF36.out.2.2.1 HSF36.out.2.2.2.1 (ys := [(.mk k32 t32 n32 a32 ks32, .agg #[.int .i64 k32, .string t32, .int .i64 n32, .int .i64 a32, .slice A32 ks32.length cap32])]) (memC M0 (mem0 _)) hA36 rfl).retire.swap3.swap3.swap3.mono_ts (mem0 _)), Lib.hid (by simpa [Nd.push] using HSP32.out)⟩
  | false =>
  have HSP22 := HSU; try simp only [hc, sm, reduceIte] at HSP22
  have htk22 : takeS E [44] s2 = s2 := by rw [takeS, hc]; rfl
  go_wp2_with fail
  go_at_call 86
  refine (take_any hE HL2.rd ⟨#[44]⟩ [44] rfl).mono ?_
  rw [hc]
  rw [htk22]
  rintro e w23 ⟨rfl, hr23, hf23⟩
  clear a21 gg21
  have HS24 := Lib.hid (HL2.go hr23 hf23); try simp only [sz] at HS24
  have a25 := J3 (F5 HS24 M0) (F3 HS24 M1) (F5 HS24 M2)
  have gg25 := HS24.gcells
  clear hr23 hf23 a25 gg25
  have HS26 := Lib.hid (HS24.ungrow); try simp only at HS26
  have a27 := J4 (F5 HS26 M0) (F5 HS26 M1) (F3 HS26 M2) (F5 HS26 M3)
  have HS28 := Lib.hid (HS26.push #[.int .i64 38, .string ⟨#[]⟩, .int .i64 0, .int .i64 (E.tok s10.i).at_, .slice A2 xs.length cap2] 25); try simp only [sz] at HS28
  have a29 := J5 (F5 HS28 M0) (F5 HS28 M1) (F5 HS28 M2) (F3 HS28 M3) (F5 HS28 M4)
  have HS30 := Lib.hid (HS28.swap3.setRow 4 (.slice (some ⟨w23.heap.size, 0, none⟩) 1 1)); try simp only [sz] at HS30
  have a31 := J5 (F5 HS30 M0) (F5 HS30 M1) (F5 HS30 M2) (F3 HS30 M3) (F5 HS30 M4)
  go_wp2_with fail
  go_at_call 90
  refine Post.use HSP22.out HNE.out (fun _ => want_tk hE HS30.rd ⟨#[58]⟩ [58] rfl) (be HS30.fp) ?_
  intro x32 s32 v32 w32 hsp32 hv32 hr32 hf32
  obtain ⟨hv32, j32, rfl⟩ := hv32
  obtain rfl : v32 = _ := hv32
  clear a27 a29 a31
  have HS33 := Lib.hid (HS30.go hr32 hf32); try simp only [sz] at HS33
  have a34 := J5 (F5 HS33 M0) (F5 HS33 M1) (F5 HS33 M2) (F3 HS33 M3) (F5 HS33 M4)
  have HSP32 := Lib.hid hsp32
  clear hsp32 hr32 hf32 a34
  have HS35 := Lib.hid ((HS33.swap3.retire.swap3.retire.swap3.swap.swap3.mono_ts (memC M0 (mem0 _))).growN (xs := [(Nd.mk 38 ⟨#[]⟩ 0 (E.tok s10.i).at_ (xs.map (fun x : Nd × Value => x.1)), Value.agg #[.int .i64 38, .string ⟨#[]⟩, .int .i64 0, .int .i64 (E.tok s10.i).at_, .slice A2 xs.length cap2])]) rfl (memC M0 (mem0 _)) rfl (by decide) ok_lit ok_lit (hE.at_ _) (by decide)); try simp only [sz] at HS35
  have a36R := F5 HS35 M0
  have gg36 := HS35.gcells
  go_wp2_with fail
  clear a36R gg36
  have hs37 := HS35.drew
  refine wp_region_G [8] (fun Wx => Wx.cell? ⟨(w2.heap.size + 1), 4, none⟩ = some (.slice (some ⟨w23.heap.size, 0, none⟩) 1 1)) (by rfl) ?_ (fun hHeld => ?_)
  · exact hs37.gcells.2.2.2.2.1
  revert hs37 hHeld
  generalize World.drew _ = wd37
  intro hs37 hHeld
  refine tk 0 (h := tk 1 (h := tk 2 (h := tk 3 (h := ?_))))
  try simp only [nm]
  refine rd1 4 fun KK hKK => ?_
  go_simp
  go_at_call 40
  refine Post.nd HSP32 HNE (fun h0 => hK.stmts _ _ _ (hE.at_ _) hs37.rd h0) (be hs37.fp) ?_
  intro k38 t38 n38 a38 ks38 s38 A38 cap38 w38 HSP38 hv38 hr38 hf38
  have hs39 := (hs37.read hr38 hf38 hv38); try simp only [sz] at hs39
  clear hs37 hHeld
  refine hKK.out _ _ (hs39.gcells.2.2.2.2.1) (fun hHeld => ?_)
  clear hKK KK
  try simp only [nm]
  refine rd1 5 fun KK hKK => ?_
  go_simp
  have hs40 := (hs39.pn k38 t38 n38 a38 (.slice A38 ks38.length cap38)); try simp only [sz] at hs40
  clear hs39
  revert hs40
  generalize World.alloc _ _ = wq41
  intro hs40
  clear hHeld
  refine hKK.out _ _ (hs40.gcells.2.2.2.2.1) (fun hHeld => ?_)
  clear hKK KK
  try simp only [nm]
  refine rd1 6 fun KK hKK => ?_
  refine apl 53 57 hs40 M0 1 (h := ?_)
  intro b42 capb42 w42 ho42 hg42 hb42 hbl42
  obtain ⟨he42, ef42, n442, nf42, hne42, hbox42, hlen42⟩ := hs40.newElem rfl ho42 hg42 hb42
  obtain ⟨e42_0, e42_1, e42_2, e42_3, e42_4⟩ := he42
  have hnx42 : ((w2.heap.size + 1) = b42) = False := by simpa using fun e => hne42 e.symm
  have hny42 : (b42 = (w2.heap.size + 1)) = False := by simpa using hne42
  have HSF42 := Lib.hid (And.intro hs40 (And.intro ho42 (And.intro hg42 (And.intro hb42 (And.intro hbox42 hlen42)))))
  clear hs40 ho42 hg42 hb42 hHeld
  refine hKK.out _ _ (n442) (fun hHeld => ?_)
  clear hKK KK
  refine tk 7 (h := ?_)
  try simp only [nm]
  refine rl1 8 fun KK hKK => ?_
  go_simp
  clear hHeld
  refine hKK.out _ _ ?_
  clear hKK KK
  try simp only [nm]
  refine wpAny_done (by kernel_rfl) ?_ _
  have hA42 := AppTo.whole (lo := W.heap.size) HSF42.out.2.1 HSF42.out.2.2.2.2.1 (fun e => hne42 e.symm)
  have HS43 := Lib.hid (HSF42.out.1.appendedN (m := 1) (N := 1) (zs := [.int .i64 k38, .string t38, .int .i64 n38, .int .i64 a38, .slice A38 ks38.length cap38]) rfl rfl HSF42.out.2.1 HSF42.out.2.2.1 HSF42.out.2.2.2.1 (ys := [(.mk k38 t38 n38 a38 ks38, .agg #[.int .i64 k38, .string t38, .int .i64 n38, .int .i64 a38, .slice A38 ks38.length cap38])]) (memC M0 (mem0 _)) hA42 rfl); try simp only at HS43
  have a44 := J2 (F5 HS43 M0) (F5 HS43 M1)
  have gg44 := HS43.gcells
  go_wp2_with fail
  have hs45 := (HS43.retire.set5 (.int .i64 27) (.string ⟨#[]⟩) (.int .i64 0) (.int .i64 (E.tok s.i).at_) (.slice (some ⟨b42, 0, none⟩) (1 + 1) capb42)).grown
  refine St.fin (slot := 4) rfl hs45 rfl (hs45.bx.tr _ M0) ?_
  exact HSP38.out


end
end Go.Proofs.YtokhfhibdeneeaaGreatDoor
