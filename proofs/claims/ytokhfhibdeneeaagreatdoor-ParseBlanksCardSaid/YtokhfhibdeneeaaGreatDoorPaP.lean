/- levels, level, expr. -/
import Derived.Deep.LoopGhost
import Derived.Test.YtokhfhibdeneeaaGreatDoorPaO
import Derived.Test.YtokhfhibdeneeaaGreatDoorMLiesP
namespace Go.Proofs.YtokhfhibdeneeaaGreatDoor
open Go.RowKit
section
variable {E : Env} {M : Rm} {w0 W w1 W' : World} {rows : List Rw} {gs : Option Gv} {ts : List (Nd × Value)} {st s s' : Rs} {K : Kn} {g : Gv}
/-- Lists of words in memory. -/
def LevelsAt (M : Rm) (W : World) (ls : List (List (List UInt8))) (v : Value) : Prop := ∃ A cap, v = .slice A ls.length cap ∧ ls.length ≤ cap ∧ cap ≤ 1000 ∧ (ls = [] ∨ ∃ b o, A = some ⟨b, o, none⟩ ∧ o + ls.length ≤ 1000 ∧ b < W.heap.size ∧ b ≠ M.bp ∧ ∀ (j : Nat) ws, ls[j]? = some ws → ∃ u, W.cell? ⟨b, o + j, none⟩ = some u ∧ WordsAt M W ws u)
theorem LevelsAt.keep {ls : List (List (List UInt8))} {v : Value} (h : LevelsAt M W ls v) (hf : Fp M.bp W W') : LevelsAt M W' ls v := by
 obtain ⟨A, cap, h1, h2, h3, h4⟩ := h
 refine ⟨A, cap, h1, h2, h3, h4.imp id ?_⟩
 rintro ⟨b, o, h5, h6, h7, h8, h9⟩
 refine ⟨b, o, h5, h6, Nat.lt_of_lt_of_le h7 (Foot.size hf), h8, fun j ws hj => ?_⟩
 obtain ⟨u, hu, hw⟩ := h9 j ws hj
 exact ⟨u, (World.cell?_of_block (w := W) (hf.block h7 h8)).trans hu, hw.keep hf⟩
theorem LevelsAt.tail {ws : List (List UInt8)} {l : List (List (List UInt8))} {b o cap n : Nat} (h : LevelsAt M W (ws :: l) (.slice (some ⟨b, o, none⟩) n cap)) : LevelsAt M W l (.slice (some ⟨b, o + 1, none⟩) l.length (cap - 1)) := by
 obtain ⟨A, cap', h1, h2, h3, h4⟩ := h
 simp only [Value.slice.injEq, List.length_cons] at h1 h2
 obtain ⟨rfl, rfl, rfl⟩ := h1
 refine ⟨_, _, rfl, by omega, by omega, .inr ?_⟩
 rcases h4 with h4 | ⟨b', o', h5, h6, h7, h8, h9⟩
 · cases h4
 · simp only [Option.some.injEq, Addr.mk.injEq, and_true] at h5
   obtain ⟨rfl, rfl⟩ := h5
   refine ⟨b, o + 1, rfl, ?_, h7, h8, fun j x hj => ?_⟩
   · simp only [List.length_cons] at h6; omega
   · obtain ⟨u, hu, hw⟩ := h9 (j + 1) x (by simpa using hj)
     exact ⟨u, by rw [← hu]; congr 2; omega, hw⟩

set_option maxRecDepth 100000 in
set_option maxHeartbeats 4000000 in
theorem levels_rd (h : RdAt E M s W) : Calls Tryz.prog 83 #[] W fun e W' => ∃ v, e = .returned v ∧ LevelsAt M W' levels v ∧ Below W.heap.size W W' := by
 have hs1 := (((((((St.init h).push #[.string ⟨#[124, 124]⟩] 9).push #[.string ⟨#[38, 38]⟩] 9).push #[.string ⟨#[61, 61]⟩, .string ⟨#[33, 61]⟩, .string ⟨#[60]⟩, .string ⟨#[60, 61]⟩, .string ⟨#[62]⟩, .string ⟨#[62, 61]⟩] 9).push #[.string ⟨#[43]⟩, .string ⟨#[45]⟩, .string ⟨#[124]⟩, .string ⟨#[94]⟩] 9).push #[.string ⟨#[42]⟩, .string ⟨#[47]⟩, .string ⟨#[37]⟩, .string ⟨#[38]⟩, .string ⟨#[60, 60]⟩, .string ⟨#[62, 62]⟩] 9).push #[.slice (some ⟨W.heap.size, 0, none⟩) 1 1, .slice (some ⟨(W.heap.size + 1), 0, none⟩) 1 1, .slice (some ⟨(W.heap.size + 1 + 1), 0, none⟩) 6 6, .slice (some ⟨(W.heap.size + 1 + 1 + 1), 0, none⟩) 4 4, .slice (some ⟨(W.heap.size + 1 + 1 + 1 + 1), 0, none⟩) 6 6] 127)
 simp only [World.size_alloc] at hs1
 have HS1 := Lib.hid hs1
 clear hs1 h
 go_enter Tryz.func83, Tryz.ntmps83
 go_wp2_with fail
 go_ret
 refine ⟨_, rfl, ⟨_, 5, rfl, by decide, by decide, .inr ⟨_, 0, rfl, by decide, (Array.getElem?_eq_some_iff.1 (HS1.bx.rw _ M0).2).1, ?_, ?_⟩⟩, ?_⟩
 rotate_left 2
 · repeat (first | exact Below.refl _ _ | refine Below.alloc ?_ (Nat.le_refl _) _ | refine Below.alloc ?_ (by simp only [World.size_alloc]; omega) _)
 · have h1 := (HS1.bx.rw _ M0).1
   have h2 := HS1.bx.bp
   simp only at h1
   omega
 · intro j ws hj
   match j, hj with
   | 0, hj =>
    simp only [levels] at hj
    injection hj with hj
    subst hj
    exact ⟨_, HS1.a M0 0, HS1.words M5 _ rfl rfl (by decide) (by decide) (by decide)⟩
   | 1, hj =>
    simp only [levels] at hj
    injection hj with hj
    subst hj
    exact ⟨_, HS1.a M0 1, HS1.words M4 _ rfl rfl (by decide) (by decide) (by decide)⟩
   | 2, hj =>
    simp only [levels] at hj
    injection hj with hj
    subst hj
    exact ⟨_, HS1.a M0 2, HS1.words M3 _ rfl rfl (by decide) (by decide) (by decide)⟩
   | 3, hj =>
    simp only [levels] at hj
    injection hj with hj
    subst hj
    exact ⟨_, HS1.a M0 3, HS1.words M2 _ rfl rfl (by decide) (by decide) (by decide)⟩
   | 4, hj =>
    simp only [levels] at hj
    injection hj with hj
    subst hj
    exact ⟨_, HS1.a M0 4, HS1.words M1 _ rfl rfl (by decide) (by decide) (by decide)⟩
   | n + 5, hj => simp [levels] at hj

set_option maxRecDepth 100000 in
set_option maxHeartbeats 4000000 in
theorem level_nil (_hE : EnvOk E M) (hK : KOK E M K) (h : RdAt E M s W) {A : Option Addr} {cap : Nat} (hne : K.unary s ≠ .out) : Calls Tryz.prog 82 #[.pointer (some ⟨M.bp, 0, none⟩), .slice A 0 cap] W (Post E M VNd W (K.unary s)) := by
 obtain ⟨R, HR⟩ : ∃ R, Hid (K.unary s = R) := ⟨_, rfl⟩
 have hneR : R ≠ .out := by rw [← HR.out]; exact hne
 rw [HR.out]
 have HNE := Lib.hid hneR
 have HS1 := Lib.hid ((St.init h).pz)
 clear hneR hne h
 go_enter Tryz.func82, Tryz.ntmps82
 go_wp2_with fail
 go_step3
 go_wp2_with fail
 go_at_call 137
 refine Post.use (bind_okR HR.out) HNE.out (fun h0 => hK.unary _ _ HS1.rd h0) (be HS1.fp) ?_
 intro x7 s7 v7 w7 hsp7 hv7 hr7 hf7
 obtain ⟨k7, t7, n7, a7, ks7⟩ := x7
 obtain ⟨A7, cap7, rfl⟩ := VNd.form hv7
 have hs8 := HS1.read hr7 hf7 hv7
 obtain ⟨z0, z1, z2, z3, z4, x0, x1, x2, x3, x4⟩ := hs8.bx.c5 M0
 have HS8 := Lib.hid hs8
 clear hs8 hr7 hf7
 go_wp2_with fail
 try rw [Exit.noGoto_ret]
 have hs9 := HS8.set5 (.int .i64 k7) (.string t7) (.int .i64 n7) (.int .i64 a7) (.slice A7 ks7.length cap7)
 refine St.fin (slot := 4) rfl hs9 rfl (hs9.bx.tr _ M0) ?_
 exact hsp7

set_option maxRecDepth 100000 in
set_option maxHeartbeats 4000000 in
theorem level_cons2 (hE : EnvOk E M) (_hK : KOK E M K) {ws : List (List UInt8)} {l : List (List (List UInt8))} (ih : ∀ s W v, RdAt E M s W → LevelsAt M W l v → levelR E K l s ≠ .out → Calls Tryz.prog 82 #[.pointer (some ⟨M.bp, 0, none⟩), v] W (Post E M VNd W (levelR E K l s)))
 (h : RdAt E M s W) {b o n cap : Nat} (hcap : (cap = 1) = False) (_hcn : n + 1 ≤ cap) (_hcb : cap ≤ 1000) (HLT : Hid (LevelsAt M W l (.slice (some ⟨b, o + 1, none⟩) n (cap - 1)))) {wb wcap wl : Nat} (HWL : Hid (wl = ws.length)) (hwl1 : wl ≤ 1000) (_hwl2 : wl ≤ wcap) (_hwl3 : wcap ≤ 9223372036854775807) (HWW : Hid (WordsAt M W ws (.slice (some ⟨wb, 0, none⟩) wl wcap))) (HU0 : Hid (W.cell? ⟨b, o, none⟩ = some (.slice (some ⟨wb, 0, none⟩) wl wcap))) (HLB : Hid (b < W.heap.size ∧ b ≠ M.bp)) (hne : levelR E K (ws :: l) s ≠ .out) :
 Calls Tryz.prog 82 #[.pointer (some ⟨M.bp, 0, none⟩), .slice (some ⟨b, o, none⟩) (n + 1) cap] W (Post E M VNd W (levelR E K (ws :: l) s)) := by
 obtain ⟨R, HR⟩ : ∃ R, Hid (levelR E K (ws :: l) s = R) := ⟨_, rfl⟩
 have hneR : R ≠ .out := by rw [← HR.out]; exact hne
 rw [HR.out]
 have HNE := Lib.hid hneR
 have HSP0 : Hid (((levelR E K l s).bind fun a s => signsR E (levelR E K l) ws K.fuel a s : Rr Nd) = R) := HR.out
 have HIH := Lib.hid ih
 clear ih hneR hne
 have HS1 := Lib.hid ((St.init h).pz)
 have a1R := F5 HS1 M0
 clear h
 have hn0 := hE.n
 have hn1 : ((1 : Int) ≤ (n : Int) + 1) = True := by simp; omega
 have hfi0 := fieldTok0
 have hfi1 := fieldTok1
 have hfi2 := fieldTok2
 have hfn0 := fieldNd0
 have hfn1 := fieldNd1
 go_enter Tryz.func82, Tryz.ntmps82
 go_wp2_with fail
 go_step3
 go_wp2_with fail
 go_at_call 82
 refine Post.use HSP0.out HNE.out (fun h0 => HIH.out _ _ _ HS1.rd (HLT.keep HS1.fp) h0) (be HS1.fp) ?_
 intro x2 s2 v2 w2 hsp2 hv2 hr2 hf2
 obtain ⟨k2, t2, n2, a2, ks2⟩ := x2
 obtain ⟨A2, cap2, rfl⟩ := VNd.form hv2
 clear a1R
 have HS3 := Lib.hid ((HS1.read hr2 hf2 hv2).pn k2 t2 n2 a2 (.slice A2 ks2.length cap2)); try simp only [sz] at HS3
 have a4 := J2 (F5 HS3 M0) (F5 HS3 M1)
 have HSP2 := Lib.hid hsp2
 clear hsp2 hr2 hf2 a4
 go_wp2_with fail
 go_step3
 go_wp2_with fail
 go_loopg [6, 8, 27, 28, 29] K.fuel (fun f _ _ _ _ _ wr => ∃ (s2 : Rs) (k2 : Int) (t2 : ByteArray) (n2 a2 : Int) (ks2 : List Nd) (A2 : Option Addr) (cap2 : Nat), Hid (St E M W [(w2.heap.size, #[.int .i64 k2, .string t2, .int .i64 n2, .int .i64 a2, .slice A2 ks2.length cap2], 25), (W.heap.size, #[.int .i64 0, .string ⟨#[]⟩, .int .i64 0, .int .i64 0, .slice none 0 0], 25)] none [(Nd.mk k2 t2 n2 a2 ks2, Value.agg #[.int .i64 k2, .string t2, .int .i64 n2, .int .i64 a2, .slice A2 ks2.length cap2])] s2 wr) ∧ Hid (signsR E (levelR E K l) ws f (Nd.mk k2 t2 n2 a2 ks2) s2 = R))
 case atStart => exact ⟨_, _, _, _, _, _, _, _, HS3.mono_ts (memC M0 (mem0 _)), HSP2.out⟩
 case round =>
  obtain ⟨s2, k2, t2, n2, a2, ks2, A2, cap2, HL2, HSL2⟩ := hrel
  cases gk with
  | zero => exact absurd HSL2.symm HNE.out
  | succ g =>
  have hspu := HSL2.out
  rw [signsR] at hspu
  have HSU := Lib.hid hspu
  clear hspu
  have a5 := J2 (F5 HL2 M0) (F5 HL2 M1)
  have c5_5 := HL2.rd.c5
  have f5_5 := HL2.rd.fz 5
  cases hdn : s2.done with
  | true =>
   have hsp6 := HSU.out
   simp only [hdn, reduceIte] at hsp6
   have HSP6 := Lib.hid hsp6
   clear hsp6
   go_wp2_with fail
   try rw [Exit.noGoto_ret]
   have hs7 := (HL2.swap.set5 (.int .i64 k2) (.string t2) (.int .i64 n2) (.int .i64 a2) (.slice A2 ks2.length cap2))
   refine St.fin (slot := 4) rfl hs7 rfl (hs7.bx.tr _ M0) ?_
   exact HSP6.out
  | false =>
  have hsp6 := HSU.out
  simp only [hdn, sm, reduceIte] at hsp6
  have HSP6 := Lib.hid hsp6
  clear hsp6
  go_wp2_with fail
  go_at_call 42
  refine (at0_rd hE HL2.rd).mono ?_
  rintro e w7 ⟨rfl, hb7⟩
  clear a5 c5_5 f5_5
  have HS8 := Lib.hid ((HL2.below hb7).push #[.int .i64 (E.tok (s2).i).kind, .string (E.tok (s2).i).str, .int .i64 (E.tok (s2).i).at_] 46); try simp only [sz] at HS8
  have a9 := J3 (F3 HS8 M0) (F5 HS8 M1) (F5 HS8 M2)
  clear hb7
  have hu0 := (World.cell?_of_block (w := W) (HS8.fp.block HLB.out.1 HLB.out.2)).trans HU0.out
  go_wp2_with fail
  clear a9 hu0
  go_loopg [8, 29] wl (fun g2 _ i wy => ∃ j : Nat, i = .int .i64 j ∧ j + g2 = wl ∧ Hid (St E M W ((w7.heap.size, #[.int .i64 (E.tok (s2).i).kind, .string (E.tok (s2).i).str, .int .i64 (E.tok (s2).i).at_], 46) :: [(w2.heap.size, #[.int .i64 k2, .string t2, .int .i64 n2, .int .i64 a2, .slice A2 ks2.length cap2], 25), (W.heap.size, #[.int .i64 0, .string ⟨#[]⟩, .int .i64 0, .int .i64 0, .slice none 0 0], 25)]) none [(Nd.mk k2 t2 n2 a2 ks2, Value.agg #[.int .i64 k2, .string t2, .int .i64 n2, .int .i64 a2, .slice A2 ks2.length cap2])] s2 wy) ∧ Hid ((ws.drop j).find? (isT E s2) = ws.find? (isT E s2)))
  case atStart => exact ⟨0, rfl, by omega, HS8.out, rfl⟩
  case round =>
   obtain ⟨j, rfl, hjg, HSI, HFI⟩ := hrel
   cases gk with
   | zero =>
    have hnone : ws.find? (isT E s2) = none := by rw [← HFI.out, List.drop_of_length_le (by rw [← HWL.out]; omega)]; rfl
    have hfin := HSP6.out
    rw [hnone] at hfin
    have HFN := Lib.hid hfin
    clear hnone hfin
    have hjw : ((j : Int) < (wl : Int)) = False := by simp; omega
    have a10 := J3 (F3 HSI M0) (F5 HSI M1) (F5 HSI M2)
    go_wp2_with fail
    try rw [Exit.noGoto_ret]
    have hs11 := (HSI.swap3.set5 (.int .i64 k2) (.string t2) (.int .i64 n2) (.int .i64 a2) (.slice A2 ks2.length cap2))
    refine St.fin (slot := 4) rfl hs11 rfl (hs11.bx.tr _ M0) ?_
    exact HFN.out
   | succ g2 =>
   obtain ⟨x, hx⟩ : ∃ x, ws[j]? = some x := ⟨_, List.getElem?_eq_getElem (by rw [← HWL.out]; omega)⟩
   have hjw : ((j : Int) < (wl : Int)) = True := by simp; omega
   have hcx := (HWW.out.keep HSI.fp).cellAt hx
   have hdr := drop_cons hx
   have HX := Lib.hid hx
   have HDR := Lib.hid hdr
   clear hx hdr
   have a10 := J3 (F3 HSI M0) (F5 HSI M1) (F5 HSI M2)
   have c10_1 := HSI.rd.c1
   have f10_1 := HSI.rd.fz 1
   have c10_4 := HSI.rd.c4
   have f10_4 := HSI.rd.fz 4
   cases hm : isT E s2 x with
   | true =>
    have hsm : ws.find? (isT E s2) = some x := by rw [← HFI.out, HDR.out, List.find?_cons_of_pos hm]
    have hfin := HSP6.out
    rw [hsm] at hfin
    have HFN := Lib.hid hfin
    clear hsm hfin
    have hlt : s2.i < E.n := isT_lt hE.ok hm
    have hsz := word_size hE hm
    go_wp2_with fail
    go_at_call 138
    refine (word_tok (E := E) s2.i (bs x) x rfl _).mono ?_
    rw [show isW (E.tok s2.i) x = true from hm]
    rintro e w11 ⟨rfl, hb11⟩
    clear a10 c10_1 f10_1 c10_4 f10_4
    have HS12 := Lib.hid (HSI.below hb11); try simp only [sz] at HS12
    have a13 := J3 (F3 HS12 M0) (F5 HS12 M1) (F5 HS12 M2)
    have c13_1 := HS12.rd.c1
    have f13_1 := HS12.rd.fz 1
    have c13_4 := HS12.rd.c4
    have f13_4 := HS12.rd.fz 4
    clear hb11
    have HS14 := Lib.hid (HS12.adv1 hE (by first | omega | (simp only [adv]; omega))); try simp only [sz] at HS14
    have a15 := J3 (F3 HS14 M0) (F5 HS14 M1) (F5 HS14 M2)
    have c15_1 := HS14.rd.c1
    have f15_1 := HS14.rd.fz 1
    have c15_4 := HS14.rd.c4
    have f15_4 := HS14.rd.fz 4
    have HS16 := Lib.hid (HS14.setTyp hE false); try simp only [sz] at HS16
    have a17 := J3 (F3 HS16 M0) (F5 HS16 M1) (F5 HS16 M2)
    go_wp2_with fail
    clear a13 c13_1 f13_1 c13_4 f13_4 a15 c15_1 f15_1 c15_4 f15_4 a17
    have hs18 := HS16.drew
    refine wp_region_G [10] (fun Wx => Wx.cell? ⟨w7.heap.size, 2, none⟩ = some (.int .i64 (E.tok (s2).i).at_) ∧ Wx.cell? ⟨w2.heap.size, 0, none⟩ = some (.int .i64 k2) ∧ Wx.cell? ⟨w2.heap.size, 1, none⟩ = some (.string t2) ∧ Wx.cell? ⟨w2.heap.size, 2, none⟩ = some (.int .i64 n2) ∧ Wx.cell? ⟨w2.heap.size, 3, none⟩ = some (.int .i64 a2) ∧ Wx.cell? ⟨w2.heap.size, 4, none⟩ = some (.slice A2 ks2.length cap2)) (by rfl) ?_ (fun hHeld => ?_)
    · exact ⟨hs18.a M0 2, hs18.a M1 0, hs18.a M1 1, hs18.a M1 2, hs18.a M1 3, hs18.a M1 4⟩
    revert hs18 hHeld
    generalize World.drew _ = wd18
    intro hs18 hHeld
    refine tk 0 (h := tk 1 (h := tk 2 (h := tk 3 (h := tk 4 (h := tk 5 (h := tk 6 (h := ?_)))))))
    try simp only [nm]
    refine rd1 7 fun KK hKK => ?_
    go_simp
    go_at_call 82
    refine Post.nd HFN HNE (fun h0 => HIH.out _ _ _ hs18.rd (HLT.keep hs18.fp) h0) (be hs18.fp) ?_
    intro k19 t19 n19 a19 ks19 s19 A19 cap19 w19 HSP19 hv19 hr19 hf19
    have hs20 := (hs18.read hr19 hf19 hv19); try simp only [sz] at hs20
    refine hKK.out _ _ (⟨hs20.a M0 2, hs20.a M1 0, hs20.a M1 1, hs20.a M1 2, hs20.a M1 3, hs20.a M1 4⟩) (fun hHeld => ?_)
    clear hKK KK
    try simp only [nm]
    refine rd1 8 fun KK hKK => ?_
    go_simp
    have hs21 := (hs20.push #[.int .i64 k2, .string t2, .int .i64 n2, .int .i64 a2, .slice A2 ks2.length cap2, .int .i64 k19, .string t19, .int .i64 n19, .int .i64 a19, .slice A19 ks19.length cap19] 25); try simp only [sz] at hs21
    revert hs21
    generalize World.alloc _ _ = wq22
    intro hs21
    refine hKK.out _ _ (⟨hs21.a M1 2, hs21.a M2 0, hs21.a M2 1, hs21.a M2 2, hs21.a M2 3, hs21.a M2 4⟩) (fun hHeld => ?_)
    clear hKK KK
    refine tk 9 (h := ?_)
    try simp only [nm]
    refine rl1 10 fun KK hKK => ?_
    have a23N := F5 hs21 M2
    go_simp
    clear a23N
    have hs24 := (hs21.swap3.set5 (.int .i64 51) (.string (bs x)) (.int .i64 0) (.int .i64 (E.tok s2.i).at_) (.slice (some ⟨w19.heap.size, 0, none⟩) 2 2)); try simp only [sz] at hs24
    refine hKK.out _ _ ?_
    clear hKK KK
    try simp only [nm]
    refine wpAny_done (by kernel_rfl) ?_ _
    have HS26 := Lib.hid (hs24.swap.node [(.mk k2 t2 n2 a2 ks2, .agg #[.int .i64 k2, .string t2, .int .i64 n2, .int .i64 a2, .slice A2 ks2.length cap2]), (.mk k19 t19 n19 a19 ks19, .agg #[.int .i64 k19, .string t19, .int .i64 n19, .int .i64 a19, .slice A19 ks19.length cap19])] rfl (memC M1 (memC M0 (mem0 _))) (k := 51) (sx := (bs x)) (n := 0) (a := (E.tok s2.i).at_) ok_lit ok_lit (hE.at_ _) hsz (l := 2) rfl (by decide)); try simp only [sz] at HS26
    clear hs18 hs20 hs21 hs24
    go_wp2_with fail
    go_roundg g
    case measure => omega
    case rel => exact ⟨_, 51, bs x, 0, (E.tok s2.i).at_, [.mk k2 t2 n2 a2 ks2, .mk k19 t19 n19 a19 ks19], _, 2, HS26.swap.retire.mono_ts (memC M0 (mem0 _)), HSP19.out⟩
   | false =>
   have hnx : (ws.drop (j + 1)).find? (isT E s2) = ws.find? (isT E s2) := by rw [← HFI.out, HDR.out, List.find?_cons_of_neg (by rw [hm]; decide)]
   have HNX := Lib.hid hnx
   clear hnx
   go_wp2_with fail
   go_at_call 138
   refine (word_tok (E := E) s2.i (bs x) x rfl _).mono ?_
   rw [show isW (E.tok s2.i) x = false from hm]
   rintro e w11 ⟨rfl, hb11⟩
   clear a10 c10_1 f10_1 c10_4 f10_4
   have HS12 := Lib.hid (HSI.below hb11); try simp only [sz] at HS12
   have a13 := J3 (F3 HS12 M0) (F5 HS12 M1) (F5 HS12 M2)
   clear hb11
   go_wp2_with fail
   go_roundg g2
   case measure => omega
   case rel => exact ⟨j + 1, by first | rfl | simp, by omega, HS12.out, HNX.out⟩

set_option maxRecDepth 100000 in
set_option maxHeartbeats 4000000 in
theorem level_cons1 (hE : EnvOk E M) (_hK : KOK E M K) {ws : List (List UInt8)} {l : List (List (List UInt8))} (ih : ∀ s W v, RdAt E M s W → LevelsAt M W l v → levelR E K l s ≠ .out → Calls Tryz.prog 82 #[.pointer (some ⟨M.bp, 0, none⟩), v] W (Post E M VNd W (levelR E K l s)))
 (h : RdAt E M s W) {b o _n _cap : Nat}  (HLT : Hid (LevelsAt M W l (.slice (some ⟨b, o, none⟩) 0 0))) {wb wcap wl : Nat} (HWL : Hid (wl = ws.length)) (hwl1 : wl ≤ 1000) (_hwl2 : wl ≤ wcap) (_hwl3 : wcap ≤ 9223372036854775807) (HWW : Hid (WordsAt M W ws (.slice (some ⟨wb, 0, none⟩) wl wcap))) (HU0 : Hid (W.cell? ⟨b, o, none⟩ = some (.slice (some ⟨wb, 0, none⟩) wl wcap))) (HLB : Hid (b < W.heap.size ∧ b ≠ M.bp)) (hne : levelR E K (ws :: l) s ≠ .out) :
 Calls Tryz.prog 82 #[.pointer (some ⟨M.bp, 0, none⟩), .slice (some ⟨b, o, none⟩) (1) 1] W (Post E M VNd W (levelR E K (ws :: l) s)) := by
 obtain ⟨R, HR⟩ : ∃ R, Hid (levelR E K (ws :: l) s = R) := ⟨_, rfl⟩
 have hneR : R ≠ .out := by rw [← HR.out]; exact hne
 rw [HR.out]
 have HNE := Lib.hid hneR
 have HSP0 : Hid (((levelR E K l s).bind fun a s => signsR E (levelR E K l) ws K.fuel a s : Rr Nd) = R) := HR.out
 have HIH := Lib.hid ih
 clear ih hneR hne
 have HS1 := Lib.hid ((St.init h).pz)
 have a1R := F5 HS1 M0
 clear h
 have hn0 := hE.n
 have hfi0 := fieldTok0
 have hfi1 := fieldTok1
 have hfi2 := fieldTok2
 have hfn0 := fieldNd0
 have hfn1 := fieldNd1
 go_enter Tryz.func82, Tryz.ntmps82
 go_wp2_with fail
 go_step3
 go_wp2_with fail
 go_at_call 82
 refine Post.use HSP0.out HNE.out (fun h0 => HIH.out _ _ _ HS1.rd (HLT.keep HS1.fp) h0) (be HS1.fp) ?_
 intro x2 s2 v2 w2 hsp2 hv2 hr2 hf2
 obtain ⟨k2, t2, n2, a2, ks2⟩ := x2
 obtain ⟨A2, cap2, rfl⟩ := VNd.form hv2
 clear a1R
 have HS3 := Lib.hid ((HS1.read hr2 hf2 hv2).pn k2 t2 n2 a2 (.slice A2 ks2.length cap2)); try simp only [sz] at HS3
 have a4 := J2 (F5 HS3 M0) (F5 HS3 M1)
 have HSP2 := Lib.hid hsp2
 clear hsp2 hr2 hf2 a4
 go_wp2_with fail
 go_step3
 go_wp2_with fail
 go_loopg [6, 8, 27, 28, 29] K.fuel (fun f _ _ _ _ _ wr => ∃ (s2 : Rs) (k2 : Int) (t2 : ByteArray) (n2 a2 : Int) (ks2 : List Nd) (A2 : Option Addr) (cap2 : Nat), Hid (St E M W [(w2.heap.size, #[.int .i64 k2, .string t2, .int .i64 n2, .int .i64 a2, .slice A2 ks2.length cap2], 25), (W.heap.size, #[.int .i64 0, .string ⟨#[]⟩, .int .i64 0, .int .i64 0, .slice none 0 0], 25)] none [(Nd.mk k2 t2 n2 a2 ks2, Value.agg #[.int .i64 k2, .string t2, .int .i64 n2, .int .i64 a2, .slice A2 ks2.length cap2])] s2 wr) ∧ Hid (signsR E (levelR E K l) ws f (Nd.mk k2 t2 n2 a2 ks2) s2 = R))
 case atStart => exact ⟨_, _, _, _, _, _, _, _, HS3.mono_ts (memC M0 (mem0 _)), HSP2.out⟩
 case round =>
  obtain ⟨s2, k2, t2, n2, a2, ks2, A2, cap2, HL2, HSL2⟩ := hrel
  cases gk with
  | zero => exact absurd HSL2.symm HNE.out
  | succ g =>
  have hspu := HSL2.out
  rw [signsR] at hspu
  have HSU := Lib.hid hspu
  clear hspu
  have a5 := J2 (F5 HL2 M0) (F5 HL2 M1)
  have c5_5 := HL2.rd.c5
  have f5_5 := HL2.rd.fz 5
  cases hdn : s2.done with
  | true =>
   have hsp6 := HSU.out
   simp only [hdn, reduceIte] at hsp6
   have HSP6 := Lib.hid hsp6
   clear hsp6
   go_wp2_with fail
   try rw [Exit.noGoto_ret]
   have hs7 := (HL2.swap.set5 (.int .i64 k2) (.string t2) (.int .i64 n2) (.int .i64 a2) (.slice A2 ks2.length cap2))
   refine St.fin (slot := 4) rfl hs7 rfl (hs7.bx.tr _ M0) ?_
   exact HSP6.out
  | false =>
  have hsp6 := HSU.out
  simp only [hdn, sm, reduceIte] at hsp6
  have HSP6 := Lib.hid hsp6
  clear hsp6
  go_wp2_with fail
  go_at_call 42
  refine (at0_rd hE HL2.rd).mono ?_
  rintro e w7 ⟨rfl, hb7⟩
  clear a5 c5_5 f5_5
  have HS8 := Lib.hid ((HL2.below hb7).push #[.int .i64 (E.tok (s2).i).kind, .string (E.tok (s2).i).str, .int .i64 (E.tok (s2).i).at_] 46); try simp only [sz] at HS8
  have a9 := J3 (F3 HS8 M0) (F5 HS8 M1) (F5 HS8 M2)
  clear hb7
  have hu0 := (World.cell?_of_block (w := W) (HS8.fp.block HLB.out.1 HLB.out.2)).trans HU0.out
  go_wp2_with fail
  clear a9 hu0
  go_loopg [8, 29] wl (fun g2 _ i wy => ∃ j : Nat, i = .int .i64 j ∧ j + g2 = wl ∧ Hid (St E M W ((w7.heap.size, #[.int .i64 (E.tok (s2).i).kind, .string (E.tok (s2).i).str, .int .i64 (E.tok (s2).i).at_], 46) :: [(w2.heap.size, #[.int .i64 k2, .string t2, .int .i64 n2, .int .i64 a2, .slice A2 ks2.length cap2], 25), (W.heap.size, #[.int .i64 0, .string ⟨#[]⟩, .int .i64 0, .int .i64 0, .slice none 0 0], 25)]) none [(Nd.mk k2 t2 n2 a2 ks2, Value.agg #[.int .i64 k2, .string t2, .int .i64 n2, .int .i64 a2, .slice A2 ks2.length cap2])] s2 wy) ∧ Hid ((ws.drop j).find? (isT E s2) = ws.find? (isT E s2)))
  case atStart => exact ⟨0, rfl, by omega, HS8.out, rfl⟩
  case round =>
   obtain ⟨j, rfl, hjg, HSI, HFI⟩ := hrel
   cases gk with
   | zero =>
    have hnone : ws.find? (isT E s2) = none := by rw [← HFI.out, List.drop_of_length_le (by rw [← HWL.out]; omega)]; rfl
    have hfin := HSP6.out
    rw [hnone] at hfin
    have HFN := Lib.hid hfin
    clear hnone hfin
    have hjw : ((j : Int) < (wl : Int)) = False := by simp; omega
    have a10 := J3 (F3 HSI M0) (F5 HSI M1) (F5 HSI M2)
    go_wp2_with fail
    try rw [Exit.noGoto_ret]
    have hs11 := (HSI.swap3.set5 (.int .i64 k2) (.string t2) (.int .i64 n2) (.int .i64 a2) (.slice A2 ks2.length cap2))
    refine St.fin (slot := 4) rfl hs11 rfl (hs11.bx.tr _ M0) ?_
    exact HFN.out
   | succ g2 =>
   obtain ⟨x, hx⟩ : ∃ x, ws[j]? = some x := ⟨_, List.getElem?_eq_getElem (by rw [← HWL.out]; omega)⟩
   have hjw : ((j : Int) < (wl : Int)) = True := by simp; omega
   have hcx := (HWW.out.keep HSI.fp).cellAt hx
   have hdr := drop_cons hx
   have HX := Lib.hid hx
   have HDR := Lib.hid hdr
   clear hx hdr
   have a10 := J3 (F3 HSI M0) (F5 HSI M1) (F5 HSI M2)
   have c10_1 := HSI.rd.c1
   have f10_1 := HSI.rd.fz 1
   have c10_4 := HSI.rd.c4
   have f10_4 := HSI.rd.fz 4
   cases hm : isT E s2 x with
   | true =>
    have hsm : ws.find? (isT E s2) = some x := by rw [← HFI.out, HDR.out, List.find?_cons_of_pos hm]
    have hfin := HSP6.out
    rw [hsm] at hfin
    have HFN := Lib.hid hfin
    clear hsm hfin
    have hlt : s2.i < E.n := isT_lt hE.ok hm
    have hsz := word_size hE hm
    go_wp2_with fail
    go_at_call 138
    refine (word_tok (E := E) s2.i (bs x) x rfl _).mono ?_
    rw [show isW (E.tok s2.i) x = true from hm]
    rintro e w11 ⟨rfl, hb11⟩
    clear a10 c10_1 f10_1 c10_4 f10_4
    have HS12 := Lib.hid (HSI.below hb11); try simp only [sz] at HS12
    have a13 := J3 (F3 HS12 M0) (F5 HS12 M1) (F5 HS12 M2)
    have c13_1 := HS12.rd.c1
    have f13_1 := HS12.rd.fz 1
    have c13_4 := HS12.rd.c4
    have f13_4 := HS12.rd.fz 4
    clear hb11
    have HS14 := Lib.hid (HS12.adv1 hE (by first | omega | (simp only [adv]; omega))); try simp only [sz] at HS14
    have a15 := J3 (F3 HS14 M0) (F5 HS14 M1) (F5 HS14 M2)
    have c15_1 := HS14.rd.c1
    have f15_1 := HS14.rd.fz 1
    have c15_4 := HS14.rd.c4
    have f15_4 := HS14.rd.fz 4
    have HS16 := Lib.hid (HS14.setTyp hE false); try simp only [sz] at HS16
    have a17 := J3 (F3 HS16 M0) (F5 HS16 M1) (F5 HS16 M2)
    go_wp2_with fail
    clear a13 c13_1 f13_1 c13_4 f13_4 a15 c15_1 f15_1 c15_4 f15_4 a17
    have hs18 := HS16.drew
    refine wp_region_G [10] (fun Wx => Wx.cell? ⟨w7.heap.size, 2, none⟩ = some (.int .i64 (E.tok (s2).i).at_) ∧ Wx.cell? ⟨w2.heap.size, 0, none⟩ = some (.int .i64 k2) ∧ Wx.cell? ⟨w2.heap.size, 1, none⟩ = some (.string t2) ∧ Wx.cell? ⟨w2.heap.size, 2, none⟩ = some (.int .i64 n2) ∧ Wx.cell? ⟨w2.heap.size, 3, none⟩ = some (.int .i64 a2) ∧ Wx.cell? ⟨w2.heap.size, 4, none⟩ = some (.slice A2 ks2.length cap2)) (by rfl) ?_ (fun hHeld => ?_)
    · exact ⟨hs18.a M0 2, hs18.a M1 0, hs18.a M1 1, hs18.a M1 2, hs18.a M1 3, hs18.a M1 4⟩
    revert hs18 hHeld
    generalize World.drew _ = wd18
    intro hs18 hHeld
    refine tk 0 (h := tk 1 (h := tk 2 (h := tk 3 (h := tk 4 (h := tk 5 (h := tk 6 (h := ?_)))))))
    try simp only [nm]
    refine rd1 7 fun KK hKK => ?_
    go_simp
    go_at_call 82
    refine Post.nd HFN HNE (fun h0 => HIH.out _ _ _ hs18.rd (HLT.keep hs18.fp) h0) (be hs18.fp) ?_
    intro k19 t19 n19 a19 ks19 s19 A19 cap19 w19 HSP19 hv19 hr19 hf19
    have hs20 := (hs18.read hr19 hf19 hv19); try simp only [sz] at hs20
    refine hKK.out _ _ (⟨hs20.a M0 2, hs20.a M1 0, hs20.a M1 1, hs20.a M1 2, hs20.a M1 3, hs20.a M1 4⟩) (fun hHeld => ?_)
    clear hKK KK
    try simp only [nm]
    refine rd1 8 fun KK hKK => ?_
    go_simp
    have hs21 := (hs20.push #[.int .i64 k2, .string t2, .int .i64 n2, .int .i64 a2, .slice A2 ks2.length cap2, .int .i64 k19, .string t19, .int .i64 n19, .int .i64 a19, .slice A19 ks19.length cap19] 25); try simp only [sz] at hs21
    revert hs21
    generalize World.alloc _ _ = wq22
    intro hs21
    refine hKK.out _ _ (⟨hs21.a M1 2, hs21.a M2 0, hs21.a M2 1, hs21.a M2 2, hs21.a M2 3, hs21.a M2 4⟩) (fun hHeld => ?_)
    clear hKK KK
    refine tk 9 (h := ?_)
    try simp only [nm]
    refine rl1 10 fun KK hKK => ?_
    have a23N := F5 hs21 M2
    go_simp
    clear a23N
    have hs24 := (hs21.swap3.set5 (.int .i64 51) (.string (bs x)) (.int .i64 0) (.int .i64 (E.tok s2.i).at_) (.slice (some ⟨w19.heap.size, 0, none⟩) 2 2)); try simp only [sz] at hs24
    refine hKK.out _ _ ?_
    clear hKK KK
    try simp only [nm]
    refine wpAny_done (by kernel_rfl) ?_ _
    have HS26 := Lib.hid (hs24.swap.node [(.mk k2 t2 n2 a2 ks2, .agg #[.int .i64 k2, .string t2, .int .i64 n2, .int .i64 a2, .slice A2 ks2.length cap2]), (.mk k19 t19 n19 a19 ks19, .agg #[.int .i64 k19, .string t19, .int .i64 n19, .int .i64 a19, .slice A19 ks19.length cap19])] rfl (memC M1 (memC M0 (mem0 _))) (k := 51) (sx := (bs x)) (n := 0) (a := (E.tok s2.i).at_) ok_lit ok_lit (hE.at_ _) hsz (l := 2) rfl (by decide)); try simp only [sz] at HS26
    clear hs18 hs20 hs21 hs24
    go_wp2_with fail
    go_roundg g
    case measure => omega
    case rel => exact ⟨_, 51, bs x, 0, (E.tok s2.i).at_, [.mk k2 t2 n2 a2 ks2, .mk k19 t19 n19 a19 ks19], _, 2, HS26.swap.retire.mono_ts (memC M0 (mem0 _)), HSP19.out⟩
   | false =>
   have hnx : (ws.drop (j + 1)).find? (isT E s2) = ws.find? (isT E s2) := by rw [← HFI.out, HDR.out, List.find?_cons_of_neg (by rw [hm]; decide)]
   have HNX := Lib.hid hnx
   clear hnx
   go_wp2_with fail
   go_at_call 138
   refine (word_tok (E := E) s2.i (bs x) x rfl _).mono ?_
   rw [show isW (E.tok s2.i) x = false from hm]
   rintro e w11 ⟨rfl, hb11⟩
   clear a10 c10_1 f10_1 c10_4 f10_4
   have HS12 := Lib.hid (HSI.below hb11); try simp only [sz] at HS12
   have a13 := J3 (F3 HS12 M0) (F5 HS12 M1) (F5 HS12 M2)
   clear hb11
   go_wp2_with fail
   go_roundg g2
   case measure => omega
   case rel => exact ⟨j + 1, by first | rfl | simp, by omega, HS12.out, HNX.out⟩

theorem level_rd (hE : EnvOk E M) (hK : KOK E M K) : ∀ (ls : List (List (List UInt8))) (s : Rs) (W : World) (v : Value), RdAt E M s W → LevelsAt M W ls v → levelR E K ls s ≠ .out → Calls Tryz.prog 82 #[.pointer (some ⟨M.bp, 0, none⟩), v] W (Post E M VNd W (levelR E K ls s))
 | [], s, W, v, h, hv, hne => by
  obtain ⟨A, cap, rfl, _, _, _⟩ := hv
  exact level_nil hE hK h hne
 | ws :: l, s, W, v, h, hv, hne => by
  have ih := level_rd hE hK l
  have hv0 := hv
  obtain ⟨A, cap, rfl, hc1, hc2, hc3⟩ := hv
  obtain ⟨b, o, rfl, ho, hb1, hb2, hcl⟩ := hc3.resolve_left (by simp)
  obtain ⟨u0, hu0, hw0⟩ := hcl 0 ws rfl
  have hww := hw0
  obtain ⟨wb, wcap, rfl, hl1, hl2, hl3, hwb, hwbne, hwc⟩ := hw0
  simp only [List.length_cons] at hc1 hv0 ⊢
  by_cases h1 : cap = 1
  · subst h1
    have hl0 : l = [] := List.length_eq_zero_iff.1 (by omega)
    subst hl0
    exact level_cons1 (_n := 0) (_cap := 1) hE hK ih h ⟨_, 0, rfl, Nat.le_refl _, by decide, .inl rfl⟩ rfl hl1 hl2 hl3 hww hu0 ⟨hb1, hb2⟩ hne
  · exact level_cons2 hE hK ih h (by simp [h1]) hc1 hc2 hv0.tail rfl hl1 hl2 hl3 hww hu0 ⟨hb1, hb2⟩ hne

set_option maxRecDepth 100000 in
set_option maxHeartbeats 4000000 in
theorem expr_rd (hE : EnvOk E M) (hK : KOK E M K) (h : RdAt E M s W) (hne : exprR E K s ≠ .out) :
 Calls Tryz.prog 37 #[.pointer (some ⟨M.bp, 0, none⟩)] W (Post E M VNd W (exprR E K s)) := by
 obtain ⟨R, HR⟩ : ∃ R, Hid (exprR E K s = R) := ⟨_, rfl⟩
 have hneR : R ≠ .out := by rw [← HR.out]; exact hne
 clear hne
 rw [HR.out]
 have HNE := Lib.hid hneR
 have HSP0 := HR
 have HS1 := Lib.hid ((St.init h).pz)
 have a1R := F5 HS1 M0
 clear hneR h
 go_enter Tryz.func37, Tryz.ntmps37
 go_wp2_with fail
 go_at_call 83
 refine (levels_rd HS1.rd).mono ?_
 rintro e w2 ⟨v2, rfl, hlv, hb2⟩
 clear a1R
 have HS2 := Lib.hid (HS1.below hb2); try simp only [sz] at HS2
 have a3R := F5 HS2 M0
 have HLV := Lib.hid hlv
 clear hlv hb2
 go_wp2_with fail
 go_at_call 82
 refine Post.use (bind_okR HSP0.out) HNE.out (fun h0 => level_rd hE hK _ _ _ _ HS2.rd HLV.out h0) (be HS2.fp) ?_
 intro x4 s4 v4 w4 hsp4 hv4 hr4 hf4
 obtain ⟨k4, t4, n4, a4, ks4⟩ := x4
 obtain ⟨A4, cap4, rfl⟩ := VNd.form hv4
 clear a3R
 have HS5 := Lib.hid (HS2.read hr4 hf4 hv4); try simp only [sz] at HS5
 have a6R := F5 HS5 M0
 have HSP4 := Lib.hid hsp4
 clear hsp4 hr4 hf4
 go_wp2_with fail
 have hs7 := (HS5.set5 (.int .i64 k4) (.string t4) (.int .i64 n4) (.int .i64 a4) (.slice A4 ks4.length cap4))
 refine St.fin (slot := 2) rfl hs7 rfl (hs7.bx.tr _ M0) ?_
 exact HSP4.out

end
end Go.Proofs.YtokhfhibdeneeaaGreatDoor
