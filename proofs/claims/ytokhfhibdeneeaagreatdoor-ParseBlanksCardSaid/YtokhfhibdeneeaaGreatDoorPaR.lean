/- post, unary. -/
import Derived.Deep.LoopGhost
import Derived.Test.YtokhfhibdeneeaaGreatDoorPaQ
import Derived.Test.YtokhfhibdeneeaaGreatDoorMLiesP
import Derived.Test.YtokhfhibdeneeaaGreatDoorMPaM
namespace Go.Proofs.YtokhfhibdeneeaaGreatDoor
open Go.RowKit
section
variable {E : Env} {M : Rm} {w0 W w1 W' : World} {rows : List Rw} {gs : Option Gv} {ts : List (Nd × Value)} {st s s' : Rs} {K : Kn} {g : Gv}

set_option maxRecDepth 100000 in
set_option maxHeartbeats 4000000 in
theorem post_rd (hE : EnvOk E M) (hK : KOK E M K) (hix : IndexOk E M K) (h : RdAt E M s W) (hne : postR E K s ≠ .out) :
 Calls Tryz.prog 146 #[.pointer (some ⟨M.bp, 0, none⟩)] W (Post E M VNd W (postR E K s)) := by
 obtain ⟨R, HR⟩ : ∃ R, Hid (postR E K s = R) := ⟨_, rfl⟩
 have hneR : R ≠ .out := by rw [← HR.out]; exact hne
 clear hne
 rw [HR.out]
 have HNE := Lib.hid hneR
 have HSP0 : Hid (((primeR E K s).bind fun a s => postL E K K.fuel a s : Rr Nd) = R) := HR.out
 have HIX := Lib.hid hix
 clear hix
 have hs1 := (((St.init h).push #[.pointer (some ⟨M.bp, 0, none⟩)] 75).pz)
 simp only [World.size_alloc] at hs1
 have a1 := J2 (F5 hs1 M0) (F1 hs1 M1)
 have HS1 := Lib.hid hs1
 clear hs1
 have hfi0 := fieldTok0
 have hfi1 := fieldTok1
 have hfi2 := fieldTok2
 have hfn0 := fieldNd0
 have hfn1 := fieldNd1
 have hmf : ∀ (fn : Fn) (first cap : Array Value) (w : World), (Instr.makeFunc fn first cap).run Tryz.prog w = .ok (.func fn first cap) w := fun _ _ _ _ => rfl
 have hn0 := hE.n
 clear hneR HR h
 go_enter Tryz.func146, Tryz.ntmps146
 go_wp2_with fail
 go_at_call 186
 refine Post.use HSP0.out HNE.out (fun h0 => prime_rd hE hK HS1.rd h0) (be HS1.fp) ?_
 intro x2 s2 v2 w2 hsp2 hv2 hr2 hf2
 obtain ⟨k2, t2, n2, a2, ks2⟩ := x2
 obtain ⟨A2, cap2, rfl⟩ := VNd.form hv2
 clear a1
 have HS3 := Lib.hid ((HS1.read hr2 hf2 hv2).pn k2 t2 n2 a2 (.slice A2 ks2.length cap2)); try simp only [sz] at HS3
 have a4 := J3 (F5 HS3 M0) (F5 HS3 M1) (F1 HS3 M2)
 have HSP2 := Lib.hid hsp2
 clear hsp2 hr2 hf2 a4
 go_wp2_with fail
 go_loopg [] K.fuel (fun f wr => ∃ (s2 : Rs) (k2 : Int) (t2 : ByteArray) (n2 a2 : Int) (ks2 : List Nd) (A2 : Option Addr) (cap2 : Nat), Hid (St E M W [(w2.heap.size, #[.int .i64 k2, .string t2, .int .i64 n2, .int .i64 a2, .slice A2 ks2.length cap2], 25), ((W.heap.size + 1), #[.int .i64 0, .string ⟨#[]⟩, .int .i64 0, .int .i64 0, .slice none 0 0], 25), (W.heap.size, #[.pointer (some ⟨M.bp, 0, none⟩)], 75)] none [(Nd.mk k2 t2 n2 a2 ks2, Value.agg #[.int .i64 k2, .string t2, .int .i64 n2, .int .i64 a2, .slice A2 ks2.length cap2])] s2 wr) ∧ Hid (postL E K f (Nd.mk k2 t2 n2 a2 ks2) s2 = R))
 case atStart => exact ⟨_, _, _, _, _, _, _, _, (HS3.mono_ts (memC M0 (mem0 _))), HSP2.out⟩
 case round =>
  obtain ⟨s2, k2, t2, n2, a2, ks2, A2, cap2, HL2, HSL2⟩ := hrel
  cases gk with
  | zero => exact absurd HSL2.symm HNE.out
  | succ g =>
  have hspu := HSL2.out
  rw [postL] at hspu
  have HSU := Lib.hid hspu
  clear hspu
  have a5 := J3 (F5 HL2 M0) (F5 HL2 M1) (F1 HL2 M2)
  go_wp2_with fail
  go_at_call 42
  refine (at0_rd hE HL2.rd).mono ?_
  rintro e w6 ⟨rfl, hb6⟩
  clear a5
  have HS7 := Lib.hid ((HL2.below hb6).push #[.int .i64 (E.tok (s2).i).kind, .string (E.tok (s2).i).str, .int .i64 (E.tok (s2).i).at_] 46); try simp only [sz] at HS7
  have a8 := J4 (F3 HS7 M0) (F5 HS7 M1) (F5 HS7 M2) (F1 HS7 M3)
  clear hb6
  cases p1 : isT E s2 [91] with
  | true =>
   have HSP9 := HSU; try simp only [p1, reduceIte] at HSP9
   go_wp2_with fail
   go_at_call 138
   refine (word_tok (E := E) s2.i ⟨#[91]⟩ [91] rfl _).mono ?_
   rw [show isW (E.tok s2.i) [91] = true from p1]
   rintro e w10 ⟨rfl, hb10⟩
   clear a8
   have HS11 := Lib.hid (HS7.below hb10); try simp only [sz] at HS11
   have a12 := J4 (F3 HS11 M0) (F5 HS11 M1) (F5 HS11 M2) (F1 HS11 M3)
   clear hb10
   go_wp2_with fail
   go_at_call 187
   refine PostS.use HSP9.out HNE.out (fun h0 => HIX.out _ _ _ _ _ _ _ (HS11.swap4.swap4.swap4.mono_ts (memC M0 (mem0 _))) h0) (fun i W' hi hf => ⟨rfl, bad_end hi hf⟩) ?_
   intro x13 s13 v13 w13 hsp13 hs13
   obtain ⟨k13, t13, n13, a13, ks13⟩ := x13
   obtain ⟨A13, cap13, rfl⟩ := (hs13.bx.tr _ M0).form
   clear a12
   have a15 := J4 (F5 hs13 M0) (F5 hs13 M1) (F1 hs13 M2) (F3 hs13 M3)
   have HS14 := Lib.hid hs13
   clear hs13
   have HSP13 := Lib.hid hsp13
   clear hsp13
   go_wp2_with fail
   go_roundg g
   case measure => omega
   case rel => exact ⟨_, k13, t13, n13, a13, ks13, _, _, ((HS14.set5 (.int .i64 k13) (.string t13) (.int .i64 n13) (.int .i64 a13) (.slice A13 ks13.length cap13)).swap4.retire.swap3.swap3.swap3.mono_ts (memC M0 (mem0 _))), HSP13.out⟩
  | false =>
  have HSP9 := HSU; try simp only [p1, sm, reduceIte] at HSP9
  go_wp2_with fail
  go_at_call 138
  refine (word_tok (E := E) s2.i ⟨#[91]⟩ [91] rfl _).mono ?_
  rw [show isW (E.tok s2.i) [91] = false from p1]
  rintro e w10 ⟨rfl, hb10⟩
  clear a8
  have HS11 := Lib.hid (HS7.below hb10); try simp only [sz] at HS11
  have a12 := J4 (F3 HS11 M0) (F5 HS11 M1) (F5 HS11 M2) (F1 HS11 M3)
  clear hb10
  cases p2 : isT E s2 [40] with
  | true =>
   have HSP13 := HSP9; try simp only [p2, reduceIte] at HSP13
   go_wp2_with fail
   go_at_call 138
   refine (word_tok (E := E) s2.i ⟨#[40]⟩ [40] rfl _).mono ?_
   rw [show isW (E.tok s2.i) [40] = true from p2]
   rintro e w14 ⟨rfl, hb14⟩
   clear a12
   have HS15 := Lib.hid (HS11.below hb14); try simp only [sz] at HS15
   have a16 := J4 (F3 HS15 M0) (F5 HS15 M1) (F5 HS15 M2) (F1 HS15 M3)
   clear hb14
   have HS17 := Lib.hid (HS15.pn k2 t2 n2 a2 (.slice A2 ks2.length cap2)); try simp only [sz] at HS17
   have a18 := J5 (F5 HS17 M0) (F3 HS17 M1) (F5 HS17 M2) (F5 HS17 M3) (F1 HS17 M4)
   have HS19 := Lib.hid (HS17.swap3.set5 (.int .i64 48) (.string ⟨#[]⟩) (.int .i64 0) (.int .i64 (E.tok s2.i).at_) (.slice (some ⟨w14.heap.size, 0, none⟩) 1 1)); try simp only [sz] at HS19
   have a20N := F5 HS19 M0
   have a20L := F5 HS19 M1
   have a20 := J3 (F3 HS19 M2) (F5 HS19 M3) (F1 HS19 M4)
   go_wp2_with fail
   have hsg := (HS19.swap.mono_ts (memC M0 (mem0 _))).growN (xs := [(.mk k2 t2 n2 a2 ks2, .agg #[.int .i64 k2, .string t2, .int .i64 n2, .int .i64 a2, .slice A2 ks2.length cap2])]) rfl (memC M0 (mem0 _)) rfl (by decide) ok_lit ok_lit (hE.at_ _) (by decide)
   have HSG := Lib.hid hsg
   clear hsg a16 a18 a20N a20L a20
   go_at_call 181
   refine CloPost.use HSP13.out HNE.out (fun h0 => open_rd hE (keepsG E M W [(w6.heap.size, #[.int .i64 (E.tok (s2).i).kind, .string (E.tok (s2).i).str, .int .i64 (E.tok (s2).i).at_], 46), ((W.heap.size + 1), #[.int .i64 0, .string ⟨#[]⟩, .int .i64 0, .int .i64 0, .slice none 0 0], 25), (W.heap.size, #[.pointer (some ⟨M.bp, 0, none⟩)], 75)] w2.heap.size) (post1_clo hE hK M2) _ _ [40] [41] rfl rfl _ s2 _ HSG.rd ⟨_, rfl, rfl, HSG.bx.sub (fun x hx => by simp at hx), HSG.tb⟩ (show (1 : Nat) ≤ 10 by decide) h0) (fun i W' hi hf => ⟨rfl, bad_end hi (HSG.fp.trans' hf)⟩) ?_
   intro x1 s1 wz hk1 hr1 hi1 hf1 hc1
   obtain ⟨g0, hg1, hg2, hg3, hg4⟩ := hi1
   obtain ⟨nb', k, sx, n, a, v, xs⟩ := g0
   obtain rfl : nb' = w2.heap.size := hg1
   have hs : St E M W _ _ [] s1 wz := ⟨hr1, hg3, hg4⟩
   obtain ⟨Av, capv, hv, _, _⟩ := row_form hs.gown
   have hv' : v = .slice Av (xs.map (·.1)).length capv := by rw [List.length_map]; exact hv
   subst hv'
   have hu := hs.ungrow
   have HU := Lib.hid hu
   clear hs hu hr1 hg3
   subst hg2
   have HKK := Lib.hid hk1
   clear hk1
   go_wp2_with fail
   go_roundg g
   case measure => omega
   case rel => exact ⟨s1, k, sx, n, a, xs.map (fun x : Nd × Value => x.1), Av, capv, HU.out.swap.retire.swap3.swap3.swap3, HKK.out⟩
  | false =>
  have HSP13 := HSP9; try simp only [p2, sm, reduceIte] at HSP13
  go_wp2_with fail
  go_at_call 138
  refine (word_tok (E := E) s2.i ⟨#[40]⟩ [40] rfl _).mono ?_
  rw [show isW (E.tok s2.i) [40] = false from p2]
  rintro e w14 ⟨rfl, hb14⟩
  clear a12
  have HS15 := Lib.hid (HS11.below hb14); try simp only [sz] at HS15
  have a16 := J4 (F3 HS15 M0) (F5 HS15 M1) (F5 HS15 M2) (F1 HS15 M3)
  clear hb14
  cases p3 : isT E s2 [46] with
  | true =>
   have HSP17 := HSP13; try simp only [p3, sm, reduceIte] at HSP17
   go_wp2_with fail
   go_at_call 138
   refine (word_tok (E := E) s2.i ⟨#[46]⟩ [46] rfl _).mono ?_
   rw [show isW (E.tok s2.i) [46] = true from p3]
   rintro e w18 ⟨rfl, hb18⟩
   clear a16
   have HS19 := Lib.hid (HS15.below hb18); try simp only [sz] at HS19
   have a20 := J4 (F3 HS19 M0) (F5 HS19 M1) (F5 HS19 M2) (F1 HS19 M3)
   clear hb18
   go_wp2_with fail
   go_at_call 42
   refine (at1_rd hE HS19.rd).mono ?_
   rintro e w21 ⟨rfl, hb21⟩
   clear a20
   have HS22 := Lib.hid (HS19.below hb21); try simp only [sz] at HS22
   have a23 := J4 (F3 HS22 M0) (F5 HS22 M1) (F5 HS22 M2) (F1 HS22 M3)
   clear hb21
   cases p4 : isW (nxt E s2) [40] with
   | true =>
    have HSP24 := HSP17; try simp only [p4, reduceIte] at HSP24
    go_wp2_with fail
    go_at_call 138
    refine (word_tok (E := E) (s2.i + 1) ⟨#[40]⟩ [40] rfl _).mono ?_
    rw [show isW (E.tok (s2.i + 1)) [40] = true from p4]
    rintro e w25 ⟨rfl, hb25⟩
    clear a23
    have HS26 := Lib.hid (HS22.below hb25); try simp only [sz] at HS26
    have a27 := J4 (F3 HS26 M0) (F5 HS26 M1) (F5 HS26 M2) (F1 HS26 M3)
    clear hb25
    have hlt2 : s2.i + 1 < E.n := isW_lt hE.ok p4
    have c28_1 := HS26.rd.c1
    have f28_1 := HS26.rd.fz 1
    have HS29 := Lib.hid (HS26.adv2 hE (by first | omega | (simp only [adv]; omega))); try simp only [sz] at HS29
    have a30 := J4 (F3 HS29 M0) (F5 HS29 M1) (F5 HS29 M2) (F1 HS29 M3)
    have c30_4 := HS29.rd.c4
    have f30_4 := HS29.rd.fz 4
    obtain ⟨b1, hb1⟩ : ∃ b, s2.typ = b := ⟨_, rfl⟩
    have c30_4' := c30_4
    rw [show (adv s2 2).typ = b1 from hb1] at c30_4'
    clear c30_4
    have HB1 := Lib.hid hb1
    clear hb1
    cases b1 with
    | false =>
     have HSP31 := HSP24; try simp only [HB1.out, sm, reduceIte] at HSP31
     go_wp2_with fail
     clear a27 c28_1 f28_1 a30 f30_4 c30_4'
     have hs32 := HS29.drew
     refine wp_region_G [8] (fun Wx => Wx.cell? ⟨w6.heap.size, 2, none⟩ = some (.int .i64 (E.tok (s2).i).at_) ∧ Wx.cell? ⟨w2.heap.size, 0, none⟩ = some (.int .i64 k2) ∧ Wx.cell? ⟨w2.heap.size, 1, none⟩ = some (.string t2) ∧ Wx.cell? ⟨w2.heap.size, 2, none⟩ = some (.int .i64 n2) ∧ Wx.cell? ⟨w2.heap.size, 3, none⟩ = some (.int .i64 a2) ∧ Wx.cell? ⟨w2.heap.size, 4, none⟩ = some (.slice A2 ks2.length cap2) ∧ Wx.cell? ⟨W.heap.size, 0, none⟩ = some (.pointer (some ⟨M.bp, 0, none⟩))) (by rfl) ?_ (fun hHeld => ?_)
     · exact ⟨hs32.a M0 2, hs32.a M1 0, hs32.a M1 1, hs32.a M1 2, hs32.a M1 3, hs32.a M1 4, hs32.a M3 0⟩
     revert hs32 hHeld
     generalize World.drew _ = wd32
     intro hs32 hHeld
     refine tk 0 (h := tk 1 (h := tk 2 (h := tk 3 (h := ?_))))
     try simp only [nm]
     refine rd1 4 fun KK hKK => ?_
     go_simp
     have hs33 := (hs32.push #[.string ⟨#[109, 97, 112]⟩, .string ⟨#[102, 117, 110, 99]⟩, .string ⟨#[97, 110, 121]⟩] 9); try simp only [sz] at hs33
     clear hs32
     revert hs33
     generalize World.alloc _ _ = wq34
     intro hs33
     clear hHeld
     refine hKK.out _ _ (⟨hs33.a M1 2, hs33.a M2 0, hs33.a M2 1, hs33.a M2 2, hs33.a M2 3, hs33.a M2 4, hs33.a M4 0⟩) (fun hHeld => ?_)
     clear hKK KK
     try simp only [nm]
     refine rd1 5 fun KK hKK => ?_
     go_simp
     go_at_call 191
     refine Post.nd HSP31 HNE (fun h0 => typ1_rd hE hs33.rd (hs33.words M0 [[109, 97, 112], [102, 117, 110, 99], [97, 110, 121]] rfl rfl (by decide) (by decide) (by decide))) (be hs33.fp) ?_
     intro k35 t35 n35 a35 ks35 s35 A35 cap35 w35 HSP35 hv35 hr35 hf35
     have hs36 := (hs33.read hr35 hf35 hv35); try simp only [sz] at hs36
     clear hs33 hHeld
     refine hKK.out _ _ (⟨hs36.a M1 2, hs36.a M2 0, hs36.a M2 1, hs36.a M2 2, hs36.a M2 3, hs36.a M2 4, hs36.a M4 0⟩) (fun hHeld => ?_)
     clear hKK KK
     try simp only [nm]
     refine rd1 6 fun KK hKK => ?_
     go_simp
     have hs37 := (hs36.push #[.int .i64 k2, .string t2, .int .i64 n2, .int .i64 a2, .slice A2 ks2.length cap2, .int .i64 k35, .string t35, .int .i64 n35, .int .i64 a35, .slice A35 ks35.length cap35] 25); try simp only [sz] at hs37
     clear hs36
     revert hs37
     generalize World.alloc _ _ = wq38
     intro hs37
     clear hHeld
     refine hKK.out _ _ (⟨hs37.a M2 2, hs37.a M3 0, hs37.a M3 1, hs37.a M3 2, hs37.a M3 3, hs37.a M3 4, hs37.a M5 0⟩) (fun hHeld => ?_)
     clear hKK KK
     refine tk 7 (h := ?_)
     try simp only [nm]
     refine rl1 8 fun KK hKK => ?_
     have a39N := F5 hs37 M3
     go_simp
     clear a39N
     have hs40 := (hs37.swap4.set5 (.int .i64 49) (.string ⟨#[]⟩) (.int .i64 0) (.int .i64 (E.tok s2.i).at_) (.slice (some ⟨w35.heap.size, 0, none⟩) 2 2)); try simp only [sz] at hs40
     clear hs37
     revert hs40
     generalize World.setCell _ _ _ = wq41
     intro hs40
     clear hHeld
     refine hKK.out _ _ ?_
     clear hKK KK
     try simp only [nm]
     refine wpAny_done (by kernel_rfl) ?_ _
     have HS42 := Lib.hid hs40; try simp only [sz] at HS42
     clear hs40
     have hs44 := (HS42.swap.node [(.mk k2 t2 n2 a2 ks2, .agg #[.int .i64 k2, .string t2, .int .i64 n2, .int .i64 a2, .slice A2 ks2.length cap2]), (.mk k35 t35 n35 a35 ks35, .agg #[.int .i64 k35, .string t35, .int .i64 n35, .int .i64 a35, .slice A35 ks35.length cap35])] rfl (memC M1 (memC M0 (mem0 _))) (k := 49) (sx := ⟨#[]⟩) (n := 0) (a := (E.tok s2.i).at_) ok_lit ok_lit (hE.at_ _) (by decide) (l := 2) rfl (by decide)); try simp only [sz] at hs44
     have a45N := F5 hs44 M0
     obtain ⟨q45_WD0, q45_WD1, q45_WD2, y45_WD0, y45_WD1, y45_WD2⟩ := hs44.bx.c3 M1
     have a45 := J3 (F3 hs44 M2) (F5 hs44 M3) (F1 hs44 M4)
     have HS44 := Lib.hid hs44
     clear hs44
     go_wp2_with fail
     go_at_call 90
     refine Post.use HSP35.out HNE.out (fun _ => want_any hE HS44.rd ⟨#[41]⟩ [41] rfl) (be HS44.fp) ?_
     intro x46 s46 v46 w46 hsp46 hv46 hr46 hf46
     obtain rfl : v46 = _ := hv46
     clear a45N q45_WD0 q45_WD1 q45_WD2 y45_WD0 y45_WD1 y45_WD2 a45
     have hs47 := (HS44.go hr46 hf46); try simp only [sz] at hs47
     have a48N := F5 hs47 M0
     obtain ⟨q48_WD0, q48_WD1, q48_WD2, y48_WD0, y48_WD1, y48_WD2⟩ := hs47.bx.c3 M1
     have a48 := J3 (F3 hs47 M2) (F5 hs47 M3) (F1 hs47 M4)
     have HS47 := Lib.hid hs47
     clear hs47
     have HSP46 := Lib.hid hsp46
     clear hsp46 hr46 hf46
     go_wp2_with fail
     go_roundg g
     case measure => omega
     case rel => exact ⟨_, 49, ⟨#[]⟩, 0, (E.tok s2.i).at_, [.mk k2 t2 n2 a2 ks2, .mk k35 t35 n35 a35 ks35], _, _, (HS47.swap.retire.swap.retire.swap3.swap3.swap3.mono_ts (memC M0 (mem0 _))), HSP46.out⟩
    | true =>
    have HSP31 := HSP24; try simp only [HB1.out, sm] at HSP31
    cases p5 : isT E (adv s2 2) [116, 121, 112, 101] with
    | true =>
     have HSP32 := HSP31; try simp only [p5, reduceIte] at HSP32
     have htk32 : takeS E [116, 121, 112, 101] (adv s2 2) = adv (adv s2 2) 1 := by rw [takeS, p5]; rfl
     go_wp2_with fail
     go_at_call 86
     refine (take_any hE HS29.rd ⟨#[116, 121, 112, 101]⟩ [116, 121, 112, 101] rfl).mono ?_
     rw [p5]
     rw [htk32]
     rintro e w33 ⟨rfl, hr33, hf33⟩
     clear a27 c28_1 f28_1 a30 f30_4 c30_4'
     have HS34 := Lib.hid (HS29.go hr33 hf33); try simp only [sz] at HS34
     have a35 := J4 (F3 HS34 M0) (F5 HS34 M1) (F5 HS34 M2) (F1 HS34 M3)
     clear hr33 hf33
     go_wp2_with fail
     go_at_call 90
     refine Post.use HSP32.out HNE.out (fun _ => want_any hE HS34.rd ⟨#[41]⟩ [41] rfl) (be HS34.fp) ?_
     intro x36 s36 v36 w36 hsp36 hv36 hr36 hf36
     obtain rfl : v36 = _ := hv36
     clear a35
     have HS37 := Lib.hid (HS34.go hr36 hf36); try simp only [sz] at HS37
     have a38 := J4 (F3 HS37 M0) (F5 HS37 M1) (F5 HS37 M2) (F1 HS37 M3)
     have c38_5 := HS37.rd.c5
     have f38_5 := HS37.rd.fz 5
     have HSP36 := Lib.hid hsp36
     clear hsp36 hr36 hf36
     have HS39 := Lib.hid (HS37.setDone hE true); try simp only [sz] at HS39
     have a40 := J4 (F3 HS39 M0) (F5 HS39 M1) (F5 HS39 M2) (F1 HS39 M3)
     go_wp2_with fail
     have hs41 := (HS39.swap3.set5 (.int .i64 k2) (.string t2) (.int .i64 n2) (.int .i64 a2) (.slice A2 ks2.length cap2))
     refine St.fin (slot := 2) rfl hs41 rfl (hs41.bx.tr _ M0) ?_
     exact HSP36.out
    | false =>
    have HSP32 := HSP31; try simp only [p5, sm, reduceIte] at HSP32
    have htk32 : takeS E [116, 121, 112, 101] (adv s2 2) = (adv s2 2) := by rw [takeS, p5]; rfl
    go_wp2_with fail
    go_at_call 86
    refine (take_any hE HS29.rd ⟨#[116, 121, 112, 101]⟩ [116, 121, 112, 101] rfl).mono ?_
    rw [p5]
    rw [htk32]
    rintro e w33 ⟨rfl, hr33, hf33⟩
    clear a27 c28_1 f28_1 a30 f30_4 c30_4'
    have HS34 := Lib.hid (HS29.go hr33 hf33); try simp only [sz] at HS34
    have a35 := J4 (F3 HS34 M0) (F5 HS34 M1) (F5 HS34 M2) (F1 HS34 M3)
    clear hr33 hf33
    go_wp2_with fail
    clear a35
    have hs36 := HS34.drew
    refine wp_region_G [8] (fun Wx => Wx.cell? ⟨w6.heap.size, 2, none⟩ = some (.int .i64 (E.tok (s2).i).at_) ∧ Wx.cell? ⟨w2.heap.size, 0, none⟩ = some (.int .i64 k2) ∧ Wx.cell? ⟨w2.heap.size, 1, none⟩ = some (.string t2) ∧ Wx.cell? ⟨w2.heap.size, 2, none⟩ = some (.int .i64 n2) ∧ Wx.cell? ⟨w2.heap.size, 3, none⟩ = some (.int .i64 a2) ∧ Wx.cell? ⟨w2.heap.size, 4, none⟩ = some (.slice A2 ks2.length cap2) ∧ Wx.cell? ⟨W.heap.size, 0, none⟩ = some (.pointer (some ⟨M.bp, 0, none⟩))) (by rfl) ?_ (fun hHeld => ?_)
    · exact ⟨hs36.a M0 2, hs36.a M1 0, hs36.a M1 1, hs36.a M1 2, hs36.a M1 3, hs36.a M1 4, hs36.a M3 0⟩
    revert hs36 hHeld
    generalize World.drew _ = wd36
    intro hs36 hHeld
    refine tk 0 (h := tk 1 (h := tk 2 (h := tk 3 (h := ?_))))
    try simp only [nm]
    refine rd1 4 fun KK hKK => ?_
    go_simp
    have hs37 := (hs36.push #[.string ⟨#[109, 97, 112]⟩, .string ⟨#[102, 117, 110, 99]⟩, .string ⟨#[97, 110, 121]⟩] 9); try simp only [sz] at hs37
    clear hs36
    revert hs37
    generalize World.alloc _ _ = wq38
    intro hs37
    clear hHeld
    refine hKK.out _ _ (⟨hs37.a M1 2, hs37.a M2 0, hs37.a M2 1, hs37.a M2 2, hs37.a M2 3, hs37.a M2 4, hs37.a M4 0⟩) (fun hHeld => ?_)
    clear hKK KK
    try simp only [nm]
    refine rd1 5 fun KK hKK => ?_
    go_simp
    go_at_call 191
    refine Post.nd HSP32 HNE (fun h0 => typ1_rd hE hs37.rd (hs37.words M0 [[109, 97, 112], [102, 117, 110, 99], [97, 110, 121]] rfl rfl (by decide) (by decide) (by decide))) (be hs37.fp) ?_
    intro k39 t39 n39 a39 ks39 s39 A39 cap39 w39 HSP39 hv39 hr39 hf39
    have hs40 := (hs37.read hr39 hf39 hv39); try simp only [sz] at hs40
    clear hs37 hHeld
    refine hKK.out _ _ (⟨hs40.a M1 2, hs40.a M2 0, hs40.a M2 1, hs40.a M2 2, hs40.a M2 3, hs40.a M2 4, hs40.a M4 0⟩) (fun hHeld => ?_)
    clear hKK KK
    try simp only [nm]
    refine rd1 6 fun KK hKK => ?_
    go_simp
    have hs41 := (hs40.push #[.int .i64 k2, .string t2, .int .i64 n2, .int .i64 a2, .slice A2 ks2.length cap2, .int .i64 k39, .string t39, .int .i64 n39, .int .i64 a39, .slice A39 ks39.length cap39] 25); try simp only [sz] at hs41
    clear hs40
    revert hs41
    generalize World.alloc _ _ = wq42
    intro hs41
    clear hHeld
    refine hKK.out _ _ (⟨hs41.a M2 2, hs41.a M3 0, hs41.a M3 1, hs41.a M3 2, hs41.a M3 3, hs41.a M3 4, hs41.a M5 0⟩) (fun hHeld => ?_)
    clear hKK KK
    refine tk 7 (h := ?_)
    try simp only [nm]
    refine rl1 8 fun KK hKK => ?_
    have a43N := F5 hs41 M3
    go_simp
    clear a43N
    have hs44 := (hs41.swap4.set5 (.int .i64 49) (.string ⟨#[]⟩) (.int .i64 0) (.int .i64 (E.tok s2.i).at_) (.slice (some ⟨w39.heap.size, 0, none⟩) 2 2)); try simp only [sz] at hs44
    clear hs41
    revert hs44
    generalize World.setCell _ _ _ = wq45
    intro hs44
    clear hHeld
    refine hKK.out _ _ ?_
    clear hKK KK
    try simp only [nm]
    refine wpAny_done (by kernel_rfl) ?_ _
    have HS46 := Lib.hid hs44; try simp only [sz] at HS46
    clear hs44
    have hs48 := (HS46.swap.node [(.mk k2 t2 n2 a2 ks2, .agg #[.int .i64 k2, .string t2, .int .i64 n2, .int .i64 a2, .slice A2 ks2.length cap2]), (.mk k39 t39 n39 a39 ks39, .agg #[.int .i64 k39, .string t39, .int .i64 n39, .int .i64 a39, .slice A39 ks39.length cap39])] rfl (memC M1 (memC M0 (mem0 _))) (k := 49) (sx := ⟨#[]⟩) (n := 0) (a := (E.tok s2.i).at_) ok_lit ok_lit (hE.at_ _) (by decide) (l := 2) rfl (by decide)); try simp only [sz] at hs48
    have a49N := F5 hs48 M0
    obtain ⟨q49_WD0, q49_WD1, q49_WD2, y49_WD0, y49_WD1, y49_WD2⟩ := hs48.bx.c3 M1
    have a49 := J3 (F3 hs48 M2) (F5 hs48 M3) (F1 hs48 M4)
    have HS48 := Lib.hid hs48
    clear hs48
    go_wp2_with fail
    go_at_call 90
    refine Post.use HSP39.out HNE.out (fun _ => want_any hE HS48.rd ⟨#[41]⟩ [41] rfl) (be HS48.fp) ?_
    intro x50 s50 v50 w50 hsp50 hv50 hr50 hf50
    obtain rfl : v50 = _ := hv50
    clear a49N q49_WD0 q49_WD1 q49_WD2 y49_WD0 y49_WD1 y49_WD2 a49
    have hs51 := (HS48.go hr50 hf50); try simp only [sz] at hs51
    have a52N := F5 hs51 M0
    obtain ⟨q52_WD0, q52_WD1, q52_WD2, y52_WD0, y52_WD1, y52_WD2⟩ := hs51.bx.c3 M1
    have a52 := J3 (F3 hs51 M2) (F5 hs51 M3) (F1 hs51 M4)
    have HS51 := Lib.hid hs51
    clear hs51
    have HSP50 := Lib.hid hsp50
    clear hsp50 hr50 hf50
    go_wp2_with fail
    go_roundg g
    case measure => omega
    case rel => exact ⟨_, 49, ⟨#[]⟩, 0, (E.tok s2.i).at_, [.mk k2 t2 n2 a2 ks2, .mk k39 t39 n39 a39 ks39], _, _, (HS51.swap.retire.swap.retire.swap3.swap3.swap3.mono_ts (memC M0 (mem0 _))), HSP50.out⟩
   | false =>
   have HSP24 := HSP17; try simp only [p4, sm, reduceIte] at HSP24
   go_wp2_with fail
   go_at_call 138
   refine (word_tok (E := E) (s2.i + 1) ⟨#[40]⟩ [40] rfl _).mono ?_
   rw [show isW (E.tok (s2.i + 1)) [40] = false from p4]
   rintro e w25 ⟨rfl, hb25⟩
   clear a23
   have HS26 := Lib.hid (HS22.below hb25); try simp only [sz] at HS26
   have a27 := J4 (F3 HS26 M0) (F5 HS26 M1) (F5 HS26 M2) (F1 HS26 M3)
   clear hb25
   have htk27 : takeS E [46] s2 = adv s2 1 := by rw [takeS, p3]; rfl
   go_wp2_with fail
   go_at_call 86
   refine (take_any hE HS26.rd ⟨#[46]⟩ [46] rfl).mono ?_
   rw [p3]
   rw [htk27]
   rintro e w28 ⟨rfl, hr28, hf28⟩
   clear a27
   have HS29 := Lib.hid (HS26.go hr28 hf28); try simp only [sz] at HS29
   have a30 := J4 (F3 HS29 M0) (F5 HS29 M1) (F5 HS29 M2) (F1 HS29 M3)
   clear hr28 hf28
   go_wp2_with fail
   clear a30
   have hs31 := HS29.drew
   refine wp_region_G [8] (fun Wx => Wx.cell? ⟨W.heap.size, 0, none⟩ = some (.pointer (some ⟨M.bp, 0, none⟩)) ∧ Wx.cell? ⟨w6.heap.size, 2, none⟩ = some (.int .i64 (E.tok (s2).i).at_) ∧ Wx.cell? ⟨w2.heap.size, 0, none⟩ = some (.int .i64 k2) ∧ Wx.cell? ⟨w2.heap.size, 1, none⟩ = some (.string t2) ∧ Wx.cell? ⟨w2.heap.size, 2, none⟩ = some (.int .i64 n2) ∧ Wx.cell? ⟨w2.heap.size, 3, none⟩ = some (.int .i64 a2) ∧ Wx.cell? ⟨w2.heap.size, 4, none⟩ = some (.slice A2 ks2.length cap2)) (by rfl) ?_ (fun hHeld => ?_)
   · exact ⟨hs31.a M3 0, hs31.a M0 2, hs31.a M1 0, hs31.a M1 1, hs31.a M1 2, hs31.a M1 3, hs31.a M1 4⟩
   revert hs31 hHeld
   generalize World.drew _ = wd31
   intro hs31 hHeld
   refine tk 0 (h := tk 3 (h := tk 4 (h := tk 5 (h := ?_))))
   try simp only [nm]
   refine wpAnyG_ready (rs := [1, 6]) (by kernel_rfl) (by simp) ?_
   refine AllReadyG.cons rfl (fun KK hKK => ?_) (AllReadyG.cons rfl (fun KK hKK => ?_) AllReadyG.nil)
   ·
    go_simp
    go_at_call 87
    refine Post.use HSP24.out HNE.out (fun h0 => name_nm hE hs31.rd) (be hs31.fp) ?_
    intro x32 s32 v32 w32 hsp32 hv32 hr32 hf32
    obtain ⟨t32, a32, rfl, rfl, ha32, ht32⟩ := hv32
    have HSP32 := Lib.hid hsp32
    clear hsp32
    have hs33 := ((hs31.go hr32 hf32).tree (t := .mk 14 t32 0 a32 []) (v := .agg #[.int .i64 14, .string t32, .int .i64 0, .int .i64 a32, .slice none 0 0]) (LiesP.leaf ok_lit ok_lit ha32 ht32)); try simp only [sz] at hs33
    clear hs31 hHeld
    refine hKK.out _ _ (⟨hs33.a M3 0, hs33.a M0 2, hs33.a M1 0, hs33.a M1 1, hs33.a M1 2, hs33.a M1 3, hs33.a M1 4⟩) (fun hHeld => ?_)
    clear hKK KK
    refine tk 2 (h := ?_)
    try simp only [nm]
    refine rd1 6 fun KK hKK => ?_
    go_simp
    have hs34 := (hs33.pn k2 t2 n2 a2 (.slice A2 ks2.length cap2)); try simp only [sz] at hs34
    clear hs33
    revert hs34
    generalize World.alloc _ _ = wq35
    intro hs34
    clear hHeld
    refine hKK.out _ _ (⟨hs34.a M4 0, hs34.a M1 2, hs34.a M2 0, hs34.a M2 1, hs34.a M2 2, hs34.a M2 3, hs34.a M2 4⟩) (fun hHeld => ?_)
    clear hKK KK
    refine tk 7 (h := ?_)
    try simp only [nm]
    refine rl1 8 fun KK hKK => ?_
    have a36N := F5 hs34 M2
    go_simp
    clear a36N
    have hs37 := (hs34.swap3.set5 (.int .i64 45) (.string t32) (.int .i64 0) (.int .i64 (E.tok s2.i).at_) (.slice (some ⟨w32.heap.size, 0, none⟩) 1 1)); try simp only [sz] at hs37
    clear hs34
    revert hs37
    generalize World.setCell _ _ _ = wq38
    intro hs37
    clear hHeld
    refine hKK.out _ _ ?_
    clear hKK KK
    try simp only [nm]
    refine wpAny_done (by kernel_rfl) ?_ _
    have HS39 := Lib.hid hs37; try simp only [sz] at HS39
    clear hs37
    go_wp2_with fail
    go_roundg g
    case measure => omega
    case rel => exact ⟨_, 45, t32, 0, (E.tok s2.i).at_, [.mk k2 t2 n2 a2 ks2], _, _, ((HS39.swap.node [(.mk k2 t2 n2 a2 ks2, .agg #[.int .i64 k2, .string t2, .int .i64 n2, .int .i64 a2, .slice A2 ks2.length cap2])] rfl (memC M1 (mem0 _)) (k := 45) (sx := t32) (n := 0) (a := (E.tok s2.i).at_) ok_lit ok_lit (hE.at_ _) ht32 (l := 1) rfl (by decide)).swap.retire.swap3.swap3.swap3.mono_ts (memC M0 (mem0 _))), HSP32.out⟩
   ·
    go_simp
    have hs32 := (hs31.pn k2 t2 n2 a2 (.slice A2 ks2.length cap2)); try simp only [sz] at hs32
    clear hs31
    revert hs32
    generalize World.alloc _ _ = wq33
    intro hs32
    clear hHeld
    refine hKK.out _ _ (⟨hs32.a M4 0, hs32.a M1 2, hs32.a M2 0, hs32.a M2 1, hs32.a M2 2, hs32.a M2 3, hs32.a M2 4⟩) (fun hHeld => ?_)
    clear hKK KK
    try simp only [nm]
    refine rd1 1 fun KK hKK => ?_
    go_simp
    go_at_call 87
    refine Post.use HSP24.out HNE.out (fun h0 => name_nm hE hs32.rd) (be hs32.fp) ?_
    intro x34 s34 v34 w34 hsp34 hv34 hr34 hf34
    obtain ⟨t34, a34, rfl, rfl, ha34, ht34⟩ := hv34
    have HSP34 := Lib.hid hsp34
    clear hsp34
    have hs35 := ((hs32.go hr34 hf34).tree (t := .mk 14 t34 0 a34 []) (v := .agg #[.int .i64 14, .string t34, .int .i64 0, .int .i64 a34, .slice none 0 0]) (LiesP.leaf ok_lit ok_lit ha34 ht34)); try simp only [sz] at hs35
    clear hs32 hHeld
    refine hKK.out _ _ (⟨hs35.a M4 0, hs35.a M1 2, hs35.a M2 0, hs35.a M2 1, hs35.a M2 2, hs35.a M2 3, hs35.a M2 4⟩) (fun hHeld => ?_)
    clear hKK KK
    refine tk 2 (h := tk 7 (h := ?_))
    try simp only [nm]
    refine rl1 8 fun KK hKK => ?_
    have a36N := F5 hs35 M2
    go_simp
    clear a36N
    have hs37 := (hs35.swap3.set5 (.int .i64 45) (.string t34) (.int .i64 0) (.int .i64 (E.tok s2.i).at_) (.slice (some ⟨wd31.heap.size, 0, none⟩) 1 1)); try simp only [sz] at hs37
    clear hs35
    revert hs37
    generalize World.setCell _ _ _ = wq38
    intro hs37
    clear hHeld
    refine hKK.out _ _ ?_
    clear hKK KK
    try simp only [nm]
    refine wpAny_done (by kernel_rfl) ?_ _
    have HS39 := Lib.hid hs37; try simp only [sz] at HS39
    clear hs37
    go_wp2_with fail
    go_roundg g
    case measure => omega
    case rel => exact ⟨_, 45, t34, 0, (E.tok s2.i).at_, [.mk k2 t2 n2 a2 ks2], _, _, ((HS39.swap.node [(.mk k2 t2 n2 a2 ks2, .agg #[.int .i64 k2, .string t2, .int .i64 n2, .int .i64 a2, .slice A2 ks2.length cap2])] rfl (memC M1 (mem0 _)) (k := 45) (sx := t34) (n := 0) (a := (E.tok s2.i).at_) ok_lit ok_lit (hE.at_ _) ht34 (l := 1) rfl (by decide)).swap.retire.swap3.swap3.swap3.mono_ts (memC M0 (mem0 _))), HSP34.out⟩
  | false =>
  have HSP17 := HSP13; try simp only [p3, sm, reduceIte] at HSP17
  go_wp2_with fail
  go_at_call 138
  refine (word_tok (E := E) s2.i ⟨#[46]⟩ [46] rfl _).mono ?_
  rw [show isW (E.tok s2.i) [46] = false from p3]
  rintro e w18 ⟨rfl, hb18⟩
  clear a16
  have HS19 := Lib.hid (HS15.below hb18); try simp only [sz] at HS19
  have a20 := J4 (F3 HS19 M0) (F5 HS19 M1) (F5 HS19 M2) (F1 HS19 M3)
  clear hb18
  have htk20 : takeS E [46] s2 = s2 := by rw [takeS, p3]; rfl
  go_wp2_with fail
  go_at_call 86
  refine (take_any hE HS19.rd ⟨#[46]⟩ [46] rfl).mono ?_
  rw [p3]
  rw [htk20]
  rintro e w21 ⟨rfl, hr21, hf21⟩
  clear a20
  have HS22 := Lib.hid (HS19.go hr21 hf21); try simp only [sz] at HS22
  have a23 := J4 (F3 HS22 M0) (F5 HS22 M1) (F5 HS22 M2) (F1 HS22 M3)
  clear hr21 hf21
  go_wp2_with fail
  have hs24 := (HS22.swap3.set5 (.int .i64 k2) (.string t2) (.int .i64 n2) (.int .i64 a2) (.slice A2 ks2.length cap2))
  refine St.fin (slot := 2) rfl hs24 rfl (hs24.bx.tr _ M0) ?_
  exact HSP17.out

end
end Go.Proofs.YtokhfhibdeneeaaGreatDoor
