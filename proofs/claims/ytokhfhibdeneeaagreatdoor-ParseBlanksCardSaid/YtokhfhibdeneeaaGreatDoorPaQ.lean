/- bracketed, prime. -/
import Derived.Test.YtokhfhibdeneeaaGreatDoorPaP
import Derived.Test.YtokhfhibdeneeaaGreatDoorMLiesP
namespace Go.Proofs.YtokhfhibdeneeaaGreatDoor
open Go.RowKit
section
variable {E : Env} {M : Rm} {w0 W w1 W' : World} {rows : List Rw} {gs : Option Gv} {ts : List (Nd × Value)} {st s s' : Rs} {K : Kn} {g : Gv}
theorem isT_ne {w w' : List UInt8} (h : isT E s w = true) (hn : (w == w') = false) : isT E s w' = false := by
 have ht : (cur E s).text = w := by
  simp only [isT, isW, Bool.and_eq_true, beq_iff_eq] at h
  exact h.2
 unfold isT isW
 rw [ht, hn, Bool.and_false]

set_option maxRecDepth 100000 in
set_option maxHeartbeats 16000000 in
theorem bracketed_rd (hE : EnvOk E M) (hK : KOK E M K) (h : RdAt E M s W) (hne : bracketedR E K s ≠ .out) :
 Calls Tryz.prog 231 #[.pointer (some ⟨M.bp, 0, none⟩), .agg #[.int .i64 0, .string (cur E s).str, .int .i64 0, .int .i64 (cur E s).at_, .slice none 0 0], .agg #[.int .i64 (E.tok s.i).kind, .string (E.tok s.i).str, .int .i64 (E.tok s.i).at_], .agg #[.int .i64 (E.tok (s.i + 1)).kind, .string (E.tok (s.i + 1)).str, .int .i64 (E.tok (s.i + 1)).at_]] W (Post E M VNd W (bracketedR E K s)) := by
 obtain ⟨R, HR⟩ : ∃ R, Hid (bracketedR E K s = R) := ⟨_, rfl⟩
 have hneR : R ≠ .out := by rw [← HR.out]; exact hne
 clear hne
 rw [HR.out]
 have HNE := Lib.hid hneR
 have HSP0 := HR
 unfold bracketedR at HSP0
 have hs1 := ((((((St.init h).push #[.pointer (some ⟨M.bp, 0, none⟩)] 75).push #[.int .i64 0, .string (cur E s).str, .int .i64 0, .int .i64 (cur E s).at_, .slice none 0 0] 25).push #[.int .i64 (E.tok s.i).kind, .string (E.tok s.i).str, .int .i64 (E.tok s.i).at_] 46).push #[.int .i64 (E.tok (s.i + 1)).kind, .string (E.tok (s.i + 1)).str, .int .i64 (E.tok (s.i + 1)).at_] 46).pz)
 simp only [World.size_alloc] at hs1
 have a1 := J5 (F5 hs1 M0) (F3 hs1 M1) (F3 hs1 M2) (F5 hs1 M3) (F1 hs1 M4)
 have HS1 := Lib.hid hs1
 clear hs1
 have hmf : ∀ (fn : Fn) (first cap : Array Value) (w : World), (Instr.makeFunc fn first cap).run Tryz.prog w = .ok (.func fn first cap) w := fun _ _ _ _ => rfl
 have hn0 := hE.n
 clear hneR h
 go_enter Tryz.func231, Tryz.ntmps231
 cases p1 : isT E s [40] with
 | true =>
  have HSP2 := HSP0; try simp only [p1, reduceIte] at HSP2
  go_wp2_with fail
  go_at_call 138
  refine (word_tok (E := E) s.i ⟨#[40]⟩ [40] rfl _).mono ?_
  rw [show isW (E.tok s.i) [40] = true from p1]
  rintro e w3 ⟨rfl, hb3⟩
  clear a1
  have HS4 := Lib.hid (HS1.below hb3); try simp only [sz] at HS4
  have a5 := J5 (F5 HS4 M0) (F3 HS4 M1) (F3 HS4 M2) (F5 HS4 M3) (F1 HS4 M4)
  clear hb3
  go_wp2_with fail
  have hs6 := (HS4.swap4.tree (t := .mk 0 (cur E s).str 0 (cur E s).at_ []) (v := .agg #[.int .i64 0, .string (cur E s).str, .int .i64 0, .int .i64 (cur E s).at_, .slice none 0 0]) (LiesP.leaf ok_lit ok_lit (hE.at_ _) (hE.str _)))
  clear a5
  go_at_call 181
  refine CloPost.use (bind_okR HSP2.out) HNE.out (fun h0 => open_rd hE (keepsV E M W [((W.heap.size + 1 + 1 + 1 + 1), #[.int .i64 0, .string ⟨#[]⟩, .int .i64 0, .int .i64 0, .slice none 0 0], 25), ((W.heap.size + 1 + 1 + 1), #[.int .i64 (E.tok (s.i + 1)).kind, .string (E.tok (s.i + 1)).str, .int .i64 (E.tok (s.i + 1)).at_], 46), ((W.heap.size + 1 + 1), #[.int .i64 (E.tok s.i).kind, .string (E.tok s.i).str, .int .i64 (E.tok s.i).at_], 46), (W.heap.size, #[.pointer (some ⟨M.bp, 0, none⟩)], 75)] (W.heap.size + 1)) (bracketed1_clo hE hK M3) _ _ [40] [41] rfl rfl _ s _ hs6.rd ⟨_, _, _, _, _, _, _, hs6.bx, hs6.tb⟩ (Nat.zero_le _) h0) (fun i W' hi hf => ⟨rfl, bad_end hi (hs6.fp.trans' hf)⟩) ?_
  intro x1 s1 w2 hk1 hr1 hi1 hf1 _
  obtain ⟨k, n, a, sx, A, l, cap, hbx, htb⟩ := hi1
  have hs2 : St E M W _ _ _ s1 w2 := ⟨hr1, hbx, htb⟩
  obtain ⟨qc00, qc01, qc02, qc03, qc04, yc00, yc01, yc02, yc03, yc04⟩ := hs2.bx.c5 M0
  obtain ⟨qd00, qd01, qd02, qd03, qd04, yd00, yd01, yd02, yd03, yd04⟩ := hs2.bx.c5 M1
  have HS2 := Lib.hid hs2
  clear hs6 hs2 hr1 hbx
  go_wp2_with fail
  have hs := HS2.swap.set5 (.int .i64 k) (.string sx) (.int .i64 n) (.int .i64 a) (.slice A l cap)
  refine St.fin (slot := 8) rfl hs rfl (hs.bx.tr _ M0) hk1
 | false =>
 have HSP2 := HSP0; try simp only [p1, sm, reduceIte] at HSP2
 go_wp2_with fail
 go_at_call 138
 refine (word_tok (E := E) s.i ⟨#[40]⟩ [40] rfl _).mono ?_
 rw [show isW (E.tok s.i) [40] = false from p1]
 rintro e w3 ⟨rfl, hb3⟩
 clear a1
 have HS4 := Lib.hid (HS1.below hb3); try simp only [sz] at HS4
 have a5 := J5 (F5 HS4 M0) (F3 HS4 M1) (F3 HS4 M2) (F5 HS4 M3) (F1 HS4 M4)
 clear hb3
 cases p2 : isT E s [91] with
 | true =>
  have HSP6 := HSP2; try simp only [p2, reduceIte] at HSP6
  go_wp2_with fail
  go_at_call 138
  refine (word_tok (E := E) s.i ⟨#[91]⟩ [91] rfl _).mono ?_
  rw [show isW (E.tok s.i) [91] = true from p2]
  rintro e w7 ⟨rfl, hb7⟩
  clear a5
  have HS8 := Lib.hid (HS4.below hb7); try simp only [sz] at HS8
  have a9 := J5 (F5 HS8 M0) (F3 HS8 M1) (F3 HS8 M2) (F5 HS8 M3) (F1 HS8 M4)
  clear hb7
  have HS10 := Lib.hid ((HS8.swap4.setRow 0 (.int .i64 38)).setRow 1 (.string ⟨#[]⟩)); try simp only [sz] at HS10
  have a11 := J5 (F5 HS10 M0) (F5 HS10 M1) (F3 HS10 M2) (F3 HS10 M3) (F1 HS10 M4)
  go_wp2_with fail
  have hsg := HS10.grow0 (nb := (W.heap.size + 1)) ok_lit ok_lit (hE.at_ _) (by decide)
  have HSG := Lib.hid hsg
  clear hsg a9 a11
  go_at_call 181
  refine CloPost.use (bind_okR HSP6.out) HNE.out (fun h0 => open_rd hE (keepsG E M W [((W.heap.size + 1 + 1 + 1 + 1), #[.int .i64 0, .string ⟨#[]⟩, .int .i64 0, .int .i64 0, .slice none 0 0], 25), ((W.heap.size + 1 + 1 + 1), #[.int .i64 (E.tok (s.i + 1)).kind, .string (E.tok (s.i + 1)).str, .int .i64 (E.tok (s.i + 1)).at_], 46), ((W.heap.size + 1 + 1), #[.int .i64 (E.tok s.i).kind, .string (E.tok s.i).str, .int .i64 (E.tok s.i).at_], 46), (W.heap.size, #[.pointer (some ⟨M.bp, 0, none⟩)], 75)] (W.heap.size + 1)) (bracketed2r_clo hE hK M3) _ _ [91] [93] rfl rfl _ s _ HSG.rd ⟨_, rfl, rfl, HSG.bx, HSG.tb⟩ (Nat.zero_le _) h0) (fun i W' hi hf => ⟨rfl, bad_end hi (HSG.fp.trans' hf)⟩) ?_
  intro x1 s1 w2 hk1 hr1 hi1 hf1 hc1
  obtain ⟨g, hg1, hg2, hg3, hg4⟩ := hi1
  obtain ⟨nb', k, sx, n, a, v, xs⟩ := g
  obtain rfl : nb' = (W.heap.size + 1) := hg1
  have hs : St E M W _ _ [] s1 w2 := ⟨hr1, hg3, hg4⟩
  obtain ⟨A, cap, hv, _, _⟩ := row_form hs.gown
  have hv' : v = .slice A xs.length cap := hv
  subst hv'
  obtain ⟨g0, g1, g2, g3, g4, gf⟩ := hs.gcells
  obtain ⟨qc00, qc01, qc02, qc03, qc04, yc00, yc01, yc02, yc03, yc04⟩ := hs.bx.c5 M0
  have HS2 := Lib.hid hs
  clear hs hr1 hg3
  go_wp2_with fail
  have hs := (HS2.set5 (.int .i64 k) (.string sx) (.int .i64 n) (.int .i64 a) (.slice A xs.length cap)).grown
  refine St.fin (slot := 8) rfl hs rfl (hs.bx.tr _ M0) ?_
  exact (congrArg (fun t => Rr.ok t s1) hg2).trans hk1
 | false =>
 have HSP6 := HSP2; try simp only [p2, sm, reduceIte] at HSP6
 go_wp2_with fail
 go_at_call 138
 refine (word_tok (E := E) s.i ⟨#[91]⟩ [91] rfl _).mono ?_
 rw [show isW (E.tok s.i) [91] = false from p2]
 rintro e w7 ⟨rfl, hb7⟩
 clear a5
 have HS8 := Lib.hid (HS4.below hb7); try simp only [sz] at HS8
 have a9 := J5 (F5 HS8 M0) (F3 HS8 M1) (F3 HS8 M2) (F5 HS8 M3) (F1 HS8 M4)
 clear hb7
 cases p3 : isT E s [110, 105, 108] with
 | true =>
  have HSP10 := HSP6; try simp only [p3, sm, reduceIte] at HSP10
  go_wp2_with fail
  go_at_call 138
  refine (word_tok (E := E) s.i ⟨#[110, 105, 108]⟩ [110, 105, 108] rfl _).mono ?_
  rw [show isW (E.tok s.i) [110, 105, 108] = true from p3]
  rintro e w11 ⟨rfl, hb11⟩
  clear a9
  have HS12 := Lib.hid (HS8.below hb11); try simp only [sz] at HS12
  have a13 := J5 (F5 HS12 M0) (F3 HS12 M1) (F3 HS12 M2) (F5 HS12 M3) (F1 HS12 M4)
  clear hb11
  have hlt := isT_lt hE.ok p3
  cases nx : isW (nxt E s) [40] with
  | true =>
   have HSP14 := HSP10; try simp only [nx, reduceIte] at HSP14
   go_wp2_with fail
   go_at_call 138
   refine (word_tok (E := E) (s.i + 1) ⟨#[40]⟩ [40] rfl _).mono ?_
   rw [show isW (E.tok (s.i + 1)) [40] = true from nx]
   rintro e w15 ⟨rfl, hb15⟩
   clear a13
   have HS16 := Lib.hid (HS12.below hb15); try simp only [sz] at HS16
   have a17 := J5 (F5 HS16 M0) (F3 HS16 M1) (F3 HS16 M2) (F5 HS16 M3) (F1 HS16 M4)
   clear hb15
   have hlt2 : s.i + 1 < E.n := isW_lt hE.ok nx
   have c18_1 := HS16.rd.c1
   have f18_1 := HS16.rd.fz 1
   have HS19 := Lib.hid (HS16.adv2 hE (by first | omega | (simp only [adv]; omega))); try simp only [sz] at HS19
   have a20 := J5 (F5 HS19 M0) (F3 HS19 M1) (F3 HS19 M2) (F5 HS19 M3) (F1 HS19 M4)
   go_wp2_with fail
   clear a17 c18_1 f18_1 a20
   have hs21 := HS19.drew
   refine wp_region_G [] (fun Wx => Wx.cell? ⟨(W.heap.size + 1 + 1), 2, none⟩ = some (.int .i64 (E.tok s.i).at_) ∧ Wx.cell? ⟨W.heap.size, 0, none⟩ = some (.pointer (some ⟨M.bp, 0, none⟩))) (by rfl) ?_ (fun hHeld => ?_)
   · exact ⟨hs21.a M2 2, hs21.a M4 0⟩
   revert hs21 hHeld
   generalize World.drew _ = wd21
   intro hs21 hHeld
   refine tk 0 (h := tk 1 (h := tk 2 (h := ?_)))
   try simp only [nm]
   refine rd1 3 fun KK hKK => ?_
   go_simp
   have hs22 := (hs21.push #[.string ⟨#[109, 97, 112]⟩, .string ⟨#[102, 117, 110, 99]⟩] 9); try simp only [sz] at hs22
   revert hs22
   generalize World.alloc _ _ = wq23
   intro hs22
   refine hKK.out _ _ (⟨hs22.a M3 2, hs22.a M5 0⟩) (fun hHeld => ?_)
   clear hKK KK
   try simp only [nm]
   refine rd1 4 fun KK hKK => ?_
   go_simp
   go_at_call 191
   refine Post.nd HSP14 HNE (fun h0 => typ1_rd hE hs22.rd (hs22.words M0 [[109, 97, 112], [102, 117, 110, 99]] rfl rfl (by decide) (by decide) (by decide))) (be hs22.fp) ?_
   intro k24 t24 n24 a24 ks24 s24 A24 cap24 w24 HSP24 hv24 hr24 hf24
   have hs25 := (hs22.read hr24 hf24 hv24); try simp only [sz] at hs25
   refine hKK.out _ _ (⟨hs25.a M3 2, hs25.a M5 0⟩) (fun hHeld => ?_)
   clear hKK KK
   try simp only [nm]
   refine rd1 5 fun KK hKK => ?_
   go_simp
   have hs26 := (hs25.pn k24 t24 n24 a24 (.slice A24 ks24.length cap24)); try simp only [sz] at hs26
   revert hs26
   generalize World.alloc _ _ = wq27
   intro hs26
   refine hKK.out _ _ (⟨hs26.a M4 2, hs26.a M6 0⟩) (fun hHeld => ?_)
   clear hKK KK
   refine tk 6 (h := ?_)
   try simp only [nm]
   refine rd1 7 fun KK hKK => ?_
   have a28N := F5 hs26 M5
   go_simp
   clear a28N
   have hs29 := (hs26.swap6.set5 (.int .i64 44) (.string ⟨#[]⟩) (.int .i64 0) (.int .i64 (E.tok s.i).at_) (.slice (some ⟨w24.heap.size, 0, none⟩) 1 1)); try simp only [sz] at hs29
   refine hKK.out _ _ (⟨hs29.a M5 2, hs29.a M6 0⟩) (fun hHeld => ?_)
   clear hKK KK
   try simp only [nm]
   refine wpAnyG_done (by kernel_rfl) ?_ _
   have HS31 := Lib.hid (hs29.swap.node [(.mk k24 t24 n24 a24 ks24, .agg #[.int .i64 k24, .string t24, .int .i64 n24, .int .i64 a24, .slice A24 ks24.length cap24])] rfl (memC M0 (mem0 _)) (k := 44) (sx := ⟨#[]⟩) (n := 0) (a := (E.tok s.i).at_) ok_lit ok_lit (hE.at_ _) (by decide) (l := 1) rfl (by decide)); try simp only [sz] at HS31
   have a32 := J5 (F5 HS31 M0) (F5 HS31 M2) (F3 HS31 M3) (F3 HS31 M4) (F1 HS31 M5)
   clear hs21 hs22 hs25 hs26 hs29
   go_wp2_with fail
   go_at_call 90
   refine Post.use HSP24.out HNE.out (fun _ => want_any hE HS31.rd ⟨#[41]⟩ [41] rfl) (be HS31.fp) ?_
   intro x33 s33 v33 w33 hsp33 hv33 hr33 hf33
   obtain rfl : v33 = _ := hv33
   clear a32
   have HS34 := Lib.hid (HS31.go hr33 hf33); try simp only [sz] at HS34
   have a35 := J5 (F5 HS34 M0) (F5 HS34 M2) (F3 HS34 M3) (F3 HS34 M4) (F1 HS34 M5)
   have HSP33 := Lib.hid hsp33
   clear hsp33 hr33 hf33
   go_wp2_with fail
   have hs36 := (HS34.swap3.set5 (.int .i64 44) (.string ⟨#[]⟩) (.int .i64 0) (.int .i64 (E.tok s.i).at_) (.slice (some ⟨w24.heap.size, 0, none⟩) 1 1))
   refine St.fin (slot := 8) rfl hs36 rfl (hs36.bx.tr _ M0) ?_
   exact HSP33.out
  | false =>
  have HSP14 := HSP10; try simp only [nx, sm, reduceIte] at HSP14
  go_wp2_with fail
  go_at_call 138
  refine (word_tok (E := E) (s.i + 1) ⟨#[40]⟩ [40] rfl _).mono ?_
  rw [show isW (E.tok (s.i + 1)) [40] = false from nx]
  rintro e w15 ⟨rfl, hb15⟩
  clear a13
  have HS16 := Lib.hid (HS12.below hb15); try simp only [sz] at HS16
  have a17 := J5 (F5 HS16 M0) (F3 HS16 M1) (F3 HS16 M2) (F5 HS16 M3) (F1 HS16 M4)
  clear hb15
  have p4 : isT E s [116, 114, 117, 101] = false := isT_ne p3 rfl
  have p5 : isT E s [102, 97, 108, 115, 101] = false := isT_ne p3 rfl
  have HSP18 := HSP14; try simp only [p4, p5, sm, reduceIte] at HSP18
  go_wp2_with fail
  go_at_call 138
  refine (word_tok (E := E) s.i ⟨#[116, 114, 117, 101]⟩ [116, 114, 117, 101] rfl _).mono ?_
  rw [show isW (E.tok s.i) [116, 114, 117, 101] = false from p4]
  rintro e w19 ⟨rfl, hb19⟩
  clear a17
  have HS20 := Lib.hid (HS16.below hb19); try simp only [sz] at HS20
  have a21 := J5 (F5 HS20 M0) (F3 HS20 M1) (F3 HS20 M2) (F5 HS20 M3) (F1 HS20 M4)
  clear hb19
  go_wp2_with fail
  go_at_call 138
  refine (word_tok (E := E) s.i ⟨#[102, 97, 108, 115, 101]⟩ [102, 97, 108, 115, 101] rfl _).mono ?_
  rw [show isW (E.tok s.i) [102, 97, 108, 115, 101] = false from p5]
  rintro e w22 ⟨rfl, hb22⟩
  clear a21
  have HS23 := Lib.hid (HS20.below hb22); try simp only [sz] at HS23
  have a24 := J5 (F5 HS23 M0) (F3 HS23 M1) (F3 HS23 M2) (F5 HS23 M3) (F1 HS23 M4)
  clear hb22
  go_wp2_with fail
  go_at_call 138
  refine (word_tok (E := E) s.i ⟨#[110, 105, 108]⟩ [110, 105, 108] rfl _).mono ?_
  rw [show isW (E.tok s.i) [110, 105, 108] = true from p3]
  rintro e w25 ⟨rfl, hb25⟩
  clear a24
  have HS26 := Lib.hid (HS23.below hb25); try simp only [sz] at HS26
  have a27 := J5 (F5 HS26 M0) (F3 HS26 M1) (F3 HS26 M2) (F5 HS26 M3) (F1 HS26 M4)
  clear hb25
  have c28_1 := HS26.rd.c1
  have f28_1 := HS26.rd.fz 1
  have HS29 := Lib.hid (HS26.adv1 hE (by first | omega | (simp only [adv]; omega))); try simp only [sz] at HS29
  have a30 := J5 (F5 HS29 M0) (F3 HS29 M1) (F3 HS29 M2) (F5 HS29 M3) (F1 HS29 M4)
  have HS31 := Lib.hid (HS29.swap4.setRow 0 (.int .i64 14)); try simp only [sz] at HS31
  have a32 := J5 (F5 HS31 M0) (F5 HS31 M1) (F3 HS31 M2) (F3 HS31 M3) (F1 HS31 M4)
  go_wp2_with fail
  have hs33 := (HS31.swap.set5 (.int .i64 14) (.string (cur E s).str) (.int .i64 0) (.int .i64 (cur E s).at_) (.slice none 0 0))
  refine St.fin (slot := 8) rfl hs33 rfl (LiesP.leaf ok_lit ok_lit (hE.at_ _) (hE.str _)) ?_
  exact HSP18.out
 | false =>
 have HSP10 := HSP6; try simp only [p3, sm, reduceIte] at HSP10
 go_wp2_with fail
 go_at_call 138
 refine (word_tok (E := E) s.i ⟨#[110, 105, 108]⟩ [110, 105, 108] rfl _).mono ?_
 rw [show isW (E.tok s.i) [110, 105, 108] = false from p3]
 rintro e w11 ⟨rfl, hb11⟩
 clear a9
 have HS12 := Lib.hid (HS8.below hb11); try simp only [sz] at HS12
 have a13 := J5 (F5 HS12 M0) (F3 HS12 M1) (F3 HS12 M2) (F5 HS12 M3) (F1 HS12 M4)
 clear hb11
 cases p4 : isT E s [116, 114, 117, 101] with
 | true =>
  have HSP14 := HSP10; try simp only [p4, sm, reduceIte] at HSP14
  have hlt := isT_lt hE.ok p4
  go_wp2_with fail
  go_at_call 138
  refine (word_tok (E := E) s.i ⟨#[116, 114, 117, 101]⟩ [116, 114, 117, 101] rfl _).mono ?_
  rw [show isW (E.tok s.i) [116, 114, 117, 101] = true from p4]
  rintro e w15 ⟨rfl, hb15⟩
  clear a13
  have HS16 := Lib.hid (HS12.below hb15); try simp only [sz] at HS16
  have a17 := J5 (F5 HS16 M0) (F3 HS16 M1) (F3 HS16 M2) (F5 HS16 M3) (F1 HS16 M4)
  clear hb15
  have c18_1 := HS16.rd.c1
  have f18_1 := HS16.rd.fz 1
  have HS19 := Lib.hid (HS16.adv1 hE (by first | omega | (simp only [adv]; omega))); try simp only [sz] at HS19
  have a20 := J5 (F5 HS19 M0) (F3 HS19 M1) (F3 HS19 M2) (F5 HS19 M3) (F1 HS19 M4)
  have HS21 := Lib.hid (HS19.swap4.setRow 0 (.int .i64 14)); try simp only [sz] at HS21
  have a22 := J5 (F5 HS21 M0) (F5 HS21 M1) (F3 HS21 M2) (F3 HS21 M3) (F1 HS21 M4)
  go_wp2_with fail
  have hs23 := (HS21.swap.set5 (.int .i64 14) (.string (cur E s).str) (.int .i64 0) (.int .i64 (cur E s).at_) (.slice none 0 0))
  refine St.fin (slot := 8) rfl hs23 rfl (LiesP.leaf ok_lit ok_lit (hE.at_ _) (hE.str _)) ?_
  exact HSP14.out
 | false =>
 have HSP14 := HSP10; try simp only [p4, sm] at HSP14
 go_wp2_with fail
 go_at_call 138
 refine (word_tok (E := E) s.i ⟨#[116, 114, 117, 101]⟩ [116, 114, 117, 101] rfl _).mono ?_
 rw [show isW (E.tok s.i) [116, 114, 117, 101] = false from p4]
 rintro e w15 ⟨rfl, hb15⟩
 clear a13
 have HS16 := Lib.hid (HS12.below hb15); try simp only [sz] at HS16
 have a17 := J5 (F5 HS16 M0) (F3 HS16 M1) (F3 HS16 M2) (F5 HS16 M3) (F1 HS16 M4)
 clear hb15
 cases p5 : isT E s [102, 97, 108, 115, 101] with
 | true =>
  have HSP18 := HSP14; try simp only [p5, sm, reduceIte] at HSP18
  have hlt := isT_lt hE.ok p5
  go_wp2_with fail
  go_at_call 138
  refine (word_tok (E := E) s.i ⟨#[102, 97, 108, 115, 101]⟩ [102, 97, 108, 115, 101] rfl _).mono ?_
  rw [show isW (E.tok s.i) [102, 97, 108, 115, 101] = true from p5]
  rintro e w19 ⟨rfl, hb19⟩
  clear a17
  have HS20 := Lib.hid (HS16.below hb19); try simp only [sz] at HS20
  have a21 := J5 (F5 HS20 M0) (F3 HS20 M1) (F3 HS20 M2) (F5 HS20 M3) (F1 HS20 M4)
  clear hb19
  have c22_1 := HS20.rd.c1
  have f22_1 := HS20.rd.fz 1
  have HS23 := Lib.hid (HS20.adv1 hE (by first | omega | (simp only [adv]; omega))); try simp only [sz] at HS23
  have a24 := J5 (F5 HS23 M0) (F3 HS23 M1) (F3 HS23 M2) (F5 HS23 M3) (F1 HS23 M4)
  have HS25 := Lib.hid (HS23.swap4.setRow 0 (.int .i64 14)); try simp only [sz] at HS25
  have a26 := J5 (F5 HS25 M0) (F5 HS25 M1) (F3 HS25 M2) (F3 HS25 M3) (F1 HS25 M4)
  go_wp2_with fail
  have hs27 := (HS25.swap.set5 (.int .i64 14) (.string (cur E s).str) (.int .i64 0) (.int .i64 (cur E s).at_) (.slice none 0 0))
  refine St.fin (slot := 8) rfl hs27 rfl (LiesP.leaf ok_lit ok_lit (hE.at_ _) (hE.str _)) ?_
  exact HSP18.out
 | false =>
 have HSP18 := HSP14; try simp only [p5, sm] at HSP18
 go_wp2_with fail
 go_at_call 138
 refine (word_tok (E := E) s.i ⟨#[102, 97, 108, 115, 101]⟩ [102, 97, 108, 115, 101] rfl _).mono ?_
 rw [show isW (E.tok s.i) [102, 97, 108, 115, 101] = false from p5]
 rintro e w19 ⟨rfl, hb19⟩
 clear a17
 have HS20 := Lib.hid (HS16.below hb19); try simp only [sz] at HS20
 have a21 := J5 (F5 HS20 M0) (F3 HS20 M1) (F3 HS20 M2) (F5 HS20 M3) (F1 HS20 M4)
 clear hb19
 go_wp2_with fail
 go_at_call 138
 refine (word_tok (E := E) s.i ⟨#[110, 105, 108]⟩ [110, 105, 108] rfl _).mono ?_
 rw [show isW (E.tok s.i) [110, 105, 108] = false from p3]
 rintro e w22 ⟨rfl, hb22⟩
 clear a21
 have HS23 := Lib.hid (HS20.below hb22); try simp only [sz] at HS23
 have a24 := J5 (F5 HS23 M0) (F3 HS23 M1) (F3 HS23 M2) (F5 HS23 M3) (F1 HS23 M4)
 clear hb22
 cases p6 : isT E s [109, 97, 112] with
 | true =>
  have HSP25 := HSP18; try simp only [p6, sm, reduceIte] at HSP25
  have hlt := isT_lt hE.ok p6
  go_wp2_with fail
  go_at_call 138
  refine (word_tok (E := E) s.i ⟨#[109, 97, 112]⟩ [109, 97, 112] rfl _).mono ?_
  rw [show isW (E.tok s.i) [109, 97, 112] = true from p6]
  rintro e w26 ⟨rfl, hb26⟩
  clear a24
  have HS27 := Lib.hid (HS23.below hb26); try simp only [sz] at HS27
  have a28 := J5 (F5 HS27 M0) (F3 HS27 M1) (F3 HS27 M2) (F5 HS27 M3) (F1 HS27 M4)
  clear hb26
  have p7 : isT E s [102, 117, 110, 99] = false := isT_ne p6 rfl
  have HSP29 := HSP25; try simp only [p7, sm, reduceIte] at HSP29
  cases nx : isW (nxt E s) [40] with
  | true =>
   have HSP30 := HSP29; try simp only [nx, reduceIte] at HSP30
   go_wp2_with fail
   go_at_call 138
   refine (word_tok (E := E) (s.i + 1) ⟨#[40]⟩ [40] rfl _).mono ?_
   rw [show isW (E.tok (s.i + 1)) [40] = true from nx]
   rintro e w31 ⟨rfl, hb31⟩
   clear a28
   have HS32 := Lib.hid (HS27.below hb31); try simp only [sz] at HS32
   have a33 := J5 (F5 HS32 M0) (F3 HS32 M1) (F3 HS32 M2) (F5 HS32 M3) (F1 HS32 M4)
   clear hb31
   have c34_1 := HS32.rd.c1
   have f34_1 := HS32.rd.fz 1
   have HS35 := Lib.hid (HS32.adv1 hE (by first | omega | (simp only [adv]; omega))); try simp only [sz] at HS35
   have a36 := J5 (F5 HS35 M0) (F3 HS35 M1) (F3 HS35 M2) (F5 HS35 M3) (F1 HS35 M4)
   have HS37 := Lib.hid (HS35.swap4.setRow 0 (.int .i64 14)); try simp only [sz] at HS37
   have a38 := J5 (F5 HS37 M0) (F5 HS37 M1) (F3 HS37 M2) (F3 HS37 M3) (F1 HS37 M4)
   go_wp2_with fail
   have hs39 := (HS37.swap.set5 (.int .i64 14) (.string (cur E s).str) (.int .i64 0) (.int .i64 (cur E s).at_) (.slice none 0 0))
   refine St.fin (slot := 8) rfl hs39 rfl (LiesP.leaf ok_lit ok_lit (hE.at_ _) (hE.str _)) ?_
   exact HSP30.out
  | false =>
  have HSP30 := HSP29; try simp only [nx, sm, reduceIte] at HSP30
  go_wp2_with fail
  go_at_call 138
  refine (word_tok (E := E) (s.i + 1) ⟨#[40]⟩ [40] rfl _).mono ?_
  rw [show isW (E.tok (s.i + 1)) [40] = false from nx]
  rintro e w31 ⟨rfl, hb31⟩
  clear a28
  have HS32 := Lib.hid (HS27.below hb31); try simp only [sz] at HS32
  have a33 := J5 (F5 HS32 M0) (F3 HS32 M1) (F3 HS32 M2) (F5 HS32 M3) (F1 HS32 M4)
  clear hb31
  have htk33 : takeS E [102, 117, 110, 99] s = s := by rw [takeS, p7]; rfl
  go_wp2_with fail
  go_at_call 86
  refine (take_any hE HS32.rd ⟨#[102, 117, 110, 99]⟩ [102, 117, 110, 99] rfl).mono ?_
  rw [p7]
  rw [htk33]
  rintro e w34 ⟨rfl, hr34, hf34⟩
  clear a33
  have HS35 := Lib.hid (HS32.go hr34 hf34); try simp only [sz] at HS35
  have a36 := J5 (F5 HS35 M0) (F3 HS35 M1) (F3 HS35 M2) (F5 HS35 M3) (F1 HS35 M4)
  clear hr34 hf34
  have htk36 : takeS E [109, 97, 112] s = adv s 1 := by rw [takeS, p6]; rfl
  go_wp2_with fail
  go_at_call 86
  refine (take_any hE HS35.rd ⟨#[109, 97, 112]⟩ [109, 97, 112] rfl).mono ?_
  rw [p6]
  rw [htk36]
  rintro e w37 ⟨rfl, hr37, hf37⟩
  clear a36
  have HS38 := Lib.hid (HS35.go hr37 hf37); try simp only [sz] at HS38
  have a39 := J5 (F5 HS38 M0) (F3 HS38 M1) (F3 HS38 M2) (F5 HS38 M3) (F1 HS38 M4)
  clear hr37 hf37
  go_wp2_with fail
  have HS40 := Lib.hid ((HS38.swap4.setRow 0 (.int .i64 39)).setRow 1 (.string ⟨#[]⟩)); try simp only [sz] at HS40
  have a41 := J5 (F5 HS40 M0) (F5 HS40 M1) (F3 HS40 M2) (F3 HS40 M3) (F1 HS40 M4)
  go_wp2_with fail
  have hsg := HS40.grow0 (nb := (W.heap.size + 1)) ok_lit ok_lit (hE.at_ _) (by decide)
  have HSG := Lib.hid hsg
  clear hsg a39 a41
  go_at_call 181
  refine CloPost.use (bind_okR HSP30.out) HNE.out (fun h0 => open_rd hE (keepsG E M W [((W.heap.size + 1 + 1 + 1 + 1), #[.int .i64 0, .string ⟨#[]⟩, .int .i64 0, .int .i64 0, .slice none 0 0], 25), ((W.heap.size + 1 + 1 + 1), #[.int .i64 (E.tok (s.i + 1)).kind, .string (E.tok (s.i + 1)).str, .int .i64 (E.tok (s.i + 1)).at_], 46), ((W.heap.size + 1 + 1), #[.int .i64 (E.tok s.i).kind, .string (E.tok s.i).str, .int .i64 (E.tok s.i).at_], 46), (W.heap.size, #[.pointer (some ⟨M.bp, 0, none⟩)], 75)] (W.heap.size + 1)) (map1_clo hE hK M3) _ _ [123] [125] rfl rfl _ (adv s 1) _ HSG.rd ⟨_, rfl, rfl, HSG.bx, HSG.tb⟩ (Nat.zero_le _) h0) (fun i W' hi hf => ⟨rfl, bad_end hi (HSG.fp.trans' hf)⟩) ?_
  intro x1 s1 w2 hk1 hr1 hi1 hf1 hc1
  obtain ⟨g, hg1, hg2, hg3, hg4⟩ := hi1
  obtain ⟨nb', k, sx, n, a, v, xs⟩ := g
  obtain rfl : nb' = (W.heap.size + 1) := hg1
  have hs : St E M W _ _ [] s1 w2 := ⟨hr1, hg3, hg4⟩
  obtain ⟨A, cap, hv, _, _⟩ := row_form hs.gown
  have hv' : v = .slice A xs.length cap := hv
  subst hv'
  obtain ⟨g0, g1, g2, g3, g4, gf⟩ := hs.gcells
  obtain ⟨qc00, qc01, qc02, qc03, qc04, yc00, yc01, yc02, yc03, yc04⟩ := hs.bx.c5 M0
  have HS2 := Lib.hid hs
  clear hs hr1 hg3
  go_wp2_with fail
  have hs := (HS2.set5 (.int .i64 k) (.string sx) (.int .i64 n) (.int .i64 a) (.slice A xs.length cap)).grown
  refine St.fin (slot := 8) rfl hs rfl (hs.bx.tr _ M0) ?_
  exact (congrArg (fun t => Rr.ok t s1) hg2).trans hk1
 | false =>
 have HSP25 := HSP18; try simp only [p6, sm, reduceIte] at HSP25
 go_wp2_with fail
 go_at_call 138
 refine (word_tok (E := E) s.i ⟨#[109, 97, 112]⟩ [109, 97, 112] rfl _).mono ?_
 rw [show isW (E.tok s.i) [109, 97, 112] = false from p6]
 rintro e w26 ⟨rfl, hb26⟩
 clear a24
 have HS27 := Lib.hid (HS23.below hb26); try simp only [sz] at HS27
 have a28 := J5 (F5 HS27 M0) (F3 HS27 M1) (F3 HS27 M2) (F5 HS27 M3) (F1 HS27 M4)
 clear hb26
 cases p7 : isT E s [102, 117, 110, 99] with
 | true =>
  have HSP29 := HSP25; try simp only [p7, reduceIte] at HSP29
  have htk29 : takeS E [102, 117, 110, 99] s = adv s 1 := by rw [takeS, p7]; rfl
  go_wp2_with fail
  go_at_call 86
  refine (take_any hE HS27.rd ⟨#[102, 117, 110, 99]⟩ [102, 117, 110, 99] rfl).mono ?_
  rw [p7]
  rw [htk29]
  rintro e w30 ⟨rfl, hr30, hf30⟩
  clear a28
  have HS31 := Lib.hid (HS27.go hr30 hf30); try simp only [sz] at HS31
  have a32 := J5 (F5 HS31 M0) (F3 HS31 M1) (F3 HS31 M2) (F5 HS31 M3) (F1 HS31 M4)
  clear hr30 hf30
  go_wp2_with fail
  clear a32
  have hs33 := HS31.drew
  refine wp_region_G [] (fun Wx => Wx.cell? ⟨(W.heap.size + 1 + 1), 2, none⟩ = some (.int .i64 (E.tok s.i).at_) ∧ Wx.cell? ⟨W.heap.size, 0, none⟩ = some (.pointer (some ⟨M.bp, 0, none⟩))) (by rfl) ?_ (fun hHeld => ?_)
  · exact ⟨hs33.a M2 2, hs33.a M4 0⟩
  revert hs33 hHeld
  generalize World.drew _ = wd33
  intro hs33 hHeld
  refine tk 0 (h := tk 1 (h := tk 2 (h := tk 4 (h := ?_))))
  try simp only [nm]
  refine rd1 3 fun KK hKK => ?_
  go_simp
  go_at_call 150
  refine Post.nd HSP29 HNE (fun h0 => params_rd hE hK.fuel hs33.rd h0) (be hs33.fp) ?_
  intro k34 t34 n34 a34 ks34 s34 A34 cap34 w34 HSP34 hv34 hr34 hf34
  have hs35 := (hs33.read hr34 hf34 hv34); try simp only [sz] at hs35
  refine hKK.out _ _ (⟨hs35.a M2 2, hs35.a M4 0⟩) (fun hHeld => ?_)
  clear hKK KK
  try simp only [nm]
  refine rd1 5 fun KK hKK => ?_
  go_simp
  go_at_call 140
  refine Post.nd HSP34 HNE (fun h0 => block_rd hE hK hs35.rd h0) (be hs35.fp) ?_
  intro k36 t36 n36 a36 ks36 s36 A36 cap36 w36 HSP36 hv36 hr36 hf36
  have hs37 := (hs35.read hr36 hf36 hv36); try simp only [sz] at hs37
  refine hKK.out _ _ (⟨hs37.a M2 2, hs37.a M4 0⟩) (fun hHeld => ?_)
  clear hKK KK
  try simp only [nm]
  refine rd1 6 fun KK hKK => ?_
  go_simp
  have hs38 := (hs37.push #[.int .i64 k34, .string t34, .int .i64 n34, .int .i64 a34, .slice A34 ks34.length cap34, .int .i64 k36, .string t36, .int .i64 n36, .int .i64 a36, .slice A36 ks36.length cap36] 25); try simp only [sz] at hs38
  revert hs38
  generalize World.alloc _ _ = wq39
  intro hs38
  refine hKK.out _ _ (⟨hs38.a M3 2, hs38.a M5 0⟩) (fun hHeld => ?_)
  clear hKK KK
  refine tk 7 (h := ?_)
  try simp only [nm]
  refine rd1 8 fun KK hKK => ?_
  have a40R := F5 hs38 M1
  go_simp
  clear a40R
  have hs41 := (hs38.swap.set5 (.int .i64 43) (.string ⟨#[]⟩) (.int .i64 0) (.int .i64 (E.tok s.i).at_) (.slice (some ⟨w36.heap.size, 0, none⟩) 2 2)); try simp only [sz] at hs41
  refine hKK.out _ _ (⟨hs41.a M3 2, hs41.a M5 0⟩) (fun hHeld => ?_)
  clear hKK KK
  try simp only [nm]
  refine wpAnyG_done (by kernel_rfl) ?_ _
  have HS42 := Lib.hid hs41; try simp only [sz] at HS42
  clear hs33 hs35 hs37 hs38 hs41
  go_wp2_with fail
  have hs44 := (HS42.swap.node [(.mk k34 t34 n34 a34 ks34, .agg #[.int .i64 k34, .string t34, .int .i64 n34, .int .i64 a34, .slice A34 ks34.length cap34]), (.mk k36 t36 n36 a36 ks36, .agg #[.int .i64 k36, .string t36, .int .i64 n36, .int .i64 a36, .slice A36 ks36.length cap36])] rfl (memC M1 (memC M0 (mem0 _))) (k := 43) (sx := ⟨#[]⟩) (n := 0) (a := (E.tok s.i).at_) ok_lit ok_lit (hE.at_ _) (by decide) (l := 2) rfl (by decide))
  refine St.fin (slot := 8) rfl hs44 rfl (hs44.bx.tr _ M0) ?_
  exact HSP36.out
 | false =>
 have HSP29 := HSP25; try simp only [p7, sm, reduceIte] at HSP29
 have htk29 : takeS E [102, 117, 110, 99] s = s := by rw [takeS, p7]; rfl
 go_wp2_with fail
 go_at_call 86
 refine (take_any hE HS27.rd ⟨#[102, 117, 110, 99]⟩ [102, 117, 110, 99] rfl).mono ?_
 rw [p7]
 rw [htk29]
 rintro e w30 ⟨rfl, hr30, hf30⟩
 clear a28
 have HS31 := Lib.hid (HS27.go hr30 hf30); try simp only [sz] at HS31
 have a32 := J5 (F5 HS31 M0) (F3 HS31 M1) (F3 HS31 M2) (F5 HS31 M3) (F1 HS31 M4)
 clear hr30 hf30
 have htk32 : takeS E [109, 97, 112] s = s := by rw [takeS, p6]; rfl
 go_wp2_with fail
 go_at_call 86
 refine (take_any hE HS31.rd ⟨#[109, 97, 112]⟩ [109, 97, 112] rfl).mono ?_
 rw [p6]
 rw [htk32]
 rintro e w33 ⟨rfl, hr33, hf33⟩
 clear a32
 have HS34 := Lib.hid (HS31.go hr33 hf33); try simp only [sz] at HS34
 have a35 := J5 (F5 HS34 M0) (F3 HS34 M1) (F3 HS34 M2) (F5 HS34 M3) (F1 HS34 M4)
 clear hr33 hf33
 go_wp2_with fail
 go_at_call 44
 refine (fail_any hE HS34.rd).mono ?_
 rintro e wz ⟨rfl, hbz⟩
 exact ⟨rfl, bad_end (HSP29.out).symm (HS34.below hbz).fp⟩

set_option maxRecDepth 100000 in
set_option maxHeartbeats 4000000 in
theorem prime_rd (hE : EnvOk E M) (hK : KOK E M K) (h : RdAt E M s W) (hne : primeR E K s ≠ .out) :
 Calls Tryz.prog 186 #[.pointer (some ⟨M.bp, 0, none⟩)] W (Post E M VNd W (primeR E K s)) := by
 obtain ⟨R, HR⟩ : ∃ R, Hid (primeR E K s = R) := ⟨_, rfl⟩
 have hneR : R ≠ .out := by rw [← HR.out]; exact hne
 clear hne
 rw [HR.out]
 have HNE := Lib.hid hneR
 have HSP0 := HR
 unfold primeR at HSP0
 have HS1 := Lib.hid ((St.init h).pz)
 have a1R := F5 HS1 M0
 have hn0 := hE.n
 clear hneR h
 go_enter Tryz.func186, Tryz.ntmps186
 go_wp2_with fail
 go_at_call 42
 refine (at0_rd hE HS1.rd).mono ?_
 rintro e w2 ⟨rfl, hb2⟩
 clear a1R
 have HS3 := Lib.hid (HS1.below hb2); try simp only [sz] at HS3
 have a4R := F5 HS3 M0
 clear hb2
 go_wp2_with fail
 go_at_call 42
 refine (at1_rd hE HS3.rd).mono ?_
 rintro e w5 ⟨rfl, hb5⟩
 clear a4R
 have HS6 := Lib.hid (((HS3.below hb5).push #[.int .i64 (E.tok s.i).kind, .string (E.tok s.i).str, .int .i64 (E.tok s.i).at_] 46).push #[.int .i64 (E.tok (s.i + 1)).kind, .string (E.tok (s.i + 1)).str, .int .i64 (E.tok (s.i + 1)).at_] 46); try simp only [sz] at HS6
 have a7 := J3 (F3 HS6 M0) (F3 HS6 M1) (F5 HS6 M2)
 clear hb5
 cases k4 : (cur E s).kind == 4 with
 | true =>
  have HSP8 := HSP0; try simp only [k4, reduceIte] at HSP8
  have hkk : ((E.tok s.i).kind == 4) = true := k4
  have hlt : s.i < E.n := kind_ltB hE.ok hkk (by decide)
  have HS9 := Lib.hid (HS6.push #[.int .i64 35, .string (E.tok s.i).str, .int .i64 0, .int .i64 (E.tok s.i).at_, .slice none 0 0] 25); try simp only [sz] at HS9
  have a10 := J4 (F5 HS9 M0) (F3 HS9 M1) (F3 HS9 M2) (F5 HS9 M3)
  have c10_1 := HS9.rd.c1
  have f10_1 := HS9.rd.fz 1
  have HS11 := Lib.hid (HS9.adv1 hE (by first | omega | (simp only [adv]; omega))); try simp only [sz] at HS11
  have a12 := J4 (F5 HS11 M0) (F3 HS11 M1) (F3 HS11 M2) (F5 HS11 M3)
  go_wp2_with fail
  have hs13 := (HS11.swap4.set5 (.int .i64 35) (.string (E.tok s.i).str) (.int .i64 0) (.int .i64 (E.tok s.i).at_) (.slice none 0 0))
  refine St.fin (slot := 2) rfl hs13 rfl (LiesP.leaf ok_lit ok_lit (hE.at_ _) (hE.str _)) ?_
  exact HSP8.out
 | false =>
 have HSP8 := HSP0; try simp only [k4, sm, reduceIte] at HSP8
 have hn4 : ((E.tok s.i).kind == 4) = false := k4
 cases k5 : (cur E s).kind == 5 with
 | true =>
  have HSP9 := HSP8; try simp only [k5, reduceIte] at HSP9
  have hkk : ((E.tok s.i).kind == 5) = true := k5
  have hlt : s.i < E.n := kind_ltB hE.ok hkk (by decide)
  have HS10 := Lib.hid (HS6.push #[.int .i64 36, .string (E.tok s.i).str, .int .i64 0, .int .i64 (E.tok s.i).at_, .slice none 0 0] 25); try simp only [sz] at HS10
  have a11 := J4 (F5 HS10 M0) (F3 HS10 M1) (F3 HS10 M2) (F5 HS10 M3)
  have c11_1 := HS10.rd.c1
  have f11_1 := HS10.rd.fz 1
  have HS12 := Lib.hid (HS10.adv1 hE (by first | omega | (simp only [adv]; omega))); try simp only [sz] at HS12
  have a13 := J4 (F5 HS12 M0) (F3 HS12 M1) (F3 HS12 M2) (F5 HS12 M3)
  go_wp2_with fail
  have hs14 := (HS12.swap4.set5 (.int .i64 36) (.string (E.tok s.i).str) (.int .i64 0) (.int .i64 (E.tok s.i).at_) (.slice none 0 0))
  refine St.fin (slot := 2) rfl hs14 rfl (LiesP.leaf ok_lit ok_lit (hE.at_ _) (hE.str _)) ?_
  exact HSP9.out
 | false =>
 have HSP9 := HSP8; try simp only [k5, sm, reduceIte] at HSP9
 have hn5 : ((E.tok s.i).kind == 5) = false := k5
 cases k6 : (cur E s).kind == 6 with
 | true =>
  have HSP10 := HSP9; try simp only [k6, reduceIte] at HSP10
  have hkk : ((E.tok s.i).kind == 6) = true := k6
  have hlt : s.i < E.n := kind_ltB hE.ok hkk (by decide)
  have HS11 := Lib.hid (HS6.push #[.int .i64 37, .string (E.tok s.i).str, .int .i64 0, .int .i64 (E.tok s.i).at_, .slice none 0 0] 25); try simp only [sz] at HS11
  have a12 := J4 (F5 HS11 M0) (F3 HS11 M1) (F3 HS11 M2) (F5 HS11 M3)
  have c12_1 := HS11.rd.c1
  have f12_1 := HS11.rd.fz 1
  have HS13 := Lib.hid (HS11.adv1 hE (by first | omega | (simp only [adv]; omega))); try simp only [sz] at HS13
  have a14 := J4 (F5 HS13 M0) (F3 HS13 M1) (F3 HS13 M2) (F5 HS13 M3)
  go_wp2_with fail
  have hs15 := (HS13.swap4.set5 (.int .i64 37) (.string (E.tok s.i).str) (.int .i64 0) (.int .i64 (E.tok s.i).at_) (.slice none 0 0))
  refine St.fin (slot := 2) rfl hs15 rfl (LiesP.leaf ok_lit ok_lit (hE.at_ _) (hE.str _)) ?_
  exact HSP10.out
 | false =>
 have HSP10 := HSP9; try simp only [k6, sm, reduceIte] at HSP10
 have hn6 : ((E.tok s.i).kind == 6) = false := k6
 cases k2 : (cur E s).kind == 2 with
 | true =>
  have HSP11 := HSP10; try simp only [k2, reduceIte] at HSP11
  have hk2 : ((E.tok s.i).kind == 2) = true := k2
  have HS12 := Lib.hid (HS6.push #[.int .i64 0, .string (E.tok s.i).str, .int .i64 0, .int .i64 (E.tok s.i).at_, .slice none 0 0] 25); try simp only [sz] at HS12
  have a13 := J4 (F5 HS12 M0) (F3 HS12 M1) (F3 HS12 M2) (F5 HS12 M3)
  go_wp2_with fail
  go_at_call 87
  refine Post.use HSP11.out HNE.out (fun h0 => name_nm hE HS12.rd) (be HS12.fp) ?_
  intro x14 s14 v14 w14 hsp14 hv14 hr14 hf14
  obtain ⟨t14, a14, rfl, rfl, ha14, ht14⟩ := hv14
  clear a7 a13
  have HS15 := Lib.hid ((HS12.go hr14 hf14).tree (t := .mk 14 t14 0 a14 []) (v := .agg #[.int .i64 14, .string t14, .int .i64 0, .int .i64 a14, .slice none 0 0]) (LiesP.leaf ok_lit ok_lit ha14 ht14)); try simp only [sz] at HS15
  have a16 := J4 (F5 HS15 M0) (F3 HS15 M1) (F3 HS15 M2) (F5 HS15 M3)
  have HSP14 := Lib.hid hsp14
  clear hsp14 hr14 hf14
  have HS17 := Lib.hid (HS15.set5 (.int .i64 14) (.string t14) (.int .i64 0) (.int .i64 a14) (.slice none 0 0)); try simp only [sz] at HS17
  have a18 := J4 (F5 HS17 M0) (F3 HS17 M1) (F3 HS17 M2) (F5 HS17 M3)
  have c18_3 := HS17.rd.c3
  have f18_3 := HS17.rd.fz 3
  obtain ⟨b0, hb0⟩ : ∃ b, isT E s14 [123] = b := ⟨_, rfl⟩
  go_wp2_with fail
  go_at_call 139
  refine (is_any hE HS17.rd ⟨#[123]⟩ [123] rfl).mono ?_
  rw [hb0]
  rintro e w19 ⟨rfl, hb19⟩
  clear a16 a18 c18_3 f18_3
  have HS20 := Lib.hid (HS17.below hb19); try simp only [sz] at HS20
  have a21 := J4 (F5 HS20 M0) (F3 HS20 M1) (F3 HS20 M2) (F5 HS20 M3)
  have c21_3 := HS20.rd.c3
  have f21_3 := HS20.rd.fz 3
  clear hb19
  obtain ⟨b1, hb1⟩ : ∃ b, s14.head = b := ⟨_, rfl⟩
  rw [hb1] at c21_3
  have HB1 := Lib.hid hb1
  clear hb1
  cases b0 with
  | false =>
   have HSP22 := HSP14; try simp only [hb0, sm, reduceIte] at HSP22
   go_wp2_with fail
   have hs23 := (HS20.swap4.set5 (.int .i64 14) (.string t14) (.int .i64 0) (.int .i64 a14) (.slice none 0 0))
   refine St.fin (slot := 2) rfl hs23 rfl (hs23.bx.tr _ M0) ?_
   exact HSP22.out
  | true =>
  have HSP22 := HSP14; try simp only [hb0, sm] at HSP22
  cases b1 with
  | false =>
   have HSP23 := HSP22; try simp only [HB1.out, sm, reduceIte] at HSP23
   go_wp2_with fail
   go_at_call 180
   refine Post.use (bind_okR HSP23.out) HNE.out (fun h0 => make_rd hE hK HS20.rd ha14 ht14 h0) (be HS20.fp) ?_
   intro x24 s24 v24 w24 hsp24 hv24 hr24 hf24
   obtain ⟨k24, t24, n24, a24, ks24⟩ := x24
   obtain ⟨A24, cap24, rfl⟩ := VNd.form hv24
   clear a21 c21_3 f21_3
   have HS25 := Lib.hid (HS20.read hr24 hf24 hv24); try simp only [sz] at HS25
   have a26 := J4 (F5 HS25 M0) (F3 HS25 M1) (F3 HS25 M2) (F5 HS25 M3)
   have HSP24 := Lib.hid hsp24
   clear hsp24 hr24 hf24
   go_wp2_with fail
   have hs27 := (HS25.swap4.set5 (.int .i64 k24) (.string t24) (.int .i64 n24) (.int .i64 a24) (.slice A24 ks24.length cap24))
   refine St.fin (slot := 2) rfl hs27 rfl (hs27.bx.tr _ M0) ?_
   exact HSP24.out
  | true =>
  have HSP23 := HSP22; try simp only [HB1.out, sm, reduceIte] at HSP23
  go_wp2_with fail
  have hs24 := (HS20.swap4.set5 (.int .i64 14) (.string t14) (.int .i64 0) (.int .i64 a14) (.slice none 0 0))
  refine St.fin (slot := 2) rfl hs24 rfl (hs24.bx.tr _ M0) ?_
  exact HSP23.out
 | false =>
 have HSP11 := HSP10; try simp only [k2, sm, reduceIte] at HSP11
 have hn2 : ((E.tok s.i).kind == 2) = false := k2
 have HS12 := Lib.hid (HS6.push #[.int .i64 0, .string (E.tok s.i).str, .int .i64 0, .int .i64 (E.tok s.i).at_, .slice none 0 0] 25); try simp only [sz] at HS12
 have a13 := J4 (F5 HS12 M0) (F3 HS12 M1) (F3 HS12 M2) (F5 HS12 M3)
 go_wp2_with fail
 go_at_call 231
 refine Post.use (bind_okR HSP11.out) HNE.out (fun h0 => bracketed_rd hE hK HS12.rd h0) (be HS12.fp) ?_
 intro x14 s14 v14 w14 hsp14 hv14 hr14 hf14
 obtain ⟨k14, t14, n14, a14, ks14⟩ := x14
 obtain ⟨A14, cap14, rfl⟩ := VNd.form hv14
 clear a7 a13
 have HS15 := Lib.hid (HS12.read hr14 hf14 hv14); try simp only [sz] at HS15
 have a16 := J4 (F5 HS15 M0) (F3 HS15 M1) (F3 HS15 M2) (F5 HS15 M3)
 have HSP14 := Lib.hid hsp14
 clear hsp14 hr14 hf14
 go_wp2_with fail
 have hs17 := (HS15.swap4.set5 (.int .i64 k14) (.string t14) (.int .i64 n14) (.int .i64 a14) (.slice A14 ks14.length cap14))
 refine St.fin (slot := 2) rfl hs17 rfl (hs17.bx.tr _ M0) ?_
 exact HSP14.out

end
end Go.Proofs.YtokhfhibdeneeaaGreatDoor
