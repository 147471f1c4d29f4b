/- A switch: the closure over its cases, choice. -/
import Derived.Test.YtokhfhibdeneeaaGreatDoorPaW
import Derived.Test.YtokhfhibdeneeaaGreatDoorMLiesP
import Derived.Test.YtokhfhibdeneeaaGreatDoorPaO
namespace Go.Proofs.YtokhfhibdeneeaaGreatDoor
open Go.RowKit
section
variable {E : Env} {M : Rm} {w0 W w1 W' : World} {rows : List Rw} {gs : Option Gv} {ts : List (Nd × Value)} {st s s' : Rs} {K : Kn} {g : Gv}

set_option maxRecDepth 100000 in
set_option maxHeartbeats 4000000 in
theorem choice2_clo (hE : EnvOk E M) (hK : KOK E M K) {part : Rs → Rr Nd} {fp : FuncId} {fi ca : Array Value} {S : World → Prop} (hP : PartOk E M part fp (fi ++ ca) S) {rb nb pb : Nat} (hrb : (rb, #[.pointer (some ⟨M.bp, 0, none⟩)], 75) ∈ rows) (hpb : (pb, #[.func (.func fp) fi ca], 76) ∈ rows)
 (hSS : ∀ rows' gs ts s W', (∀ r ∈ rows, r ∈ rows') → St E M w0 rows' gs ts s W' → S W') :
 Clo E M w0.heap.size (InvG E M w0 rows nb) (fun a => a.kids.length) 10 K.fuel 229 #[.pointer (some ⟨rb, 0, none⟩), .pointer (some ⟨nb, 0, none⟩), .pointer (some ⟨pb, 0, none⟩)] (fun a s => casesL E (casedR E K part) K.fuel a (endsS E s)) := by
 refine ⟨fun W => rfl, fun a s W hr hi hc hne => ?_⟩
 obtain ⟨g, hgn, rfl, hbx, htb⟩ := hi
 obtain ⟨nb', k, sx, n, a, v, xs⟩ := g
 obtain rfl : nb' = nb := hgn
 obtain ⟨R, HR⟩ : ∃ R, Hid (casesL E (casedR E K part) K.fuel (Gv.nd ⟨nb', k, sx, n, a, v, xs⟩) (endsS E s) = R) := ⟨_, rfl⟩
 have hneR : R ≠ .out := by rw [← HR.out]; exact hne
 have HNE := Lib.hid hneR
 have hg : CloPost E M w0.heap.size (InvG E M w0 rows nb') (fun a' => a'.kids.length ≤ (Gv.nd ⟨nb', k, sx, n, a, v, xs⟩).kids.length + K.fuel) W (casesL E (casedR E K part) K.fuel (Gv.nd ⟨nb', k, sx, n, a, v, xs⟩) (endsS E s)) = CloPost E M w0.heap.size (InvG E M w0 rows nb') (fun a' => a'.kids.length ≤ (Gv.nd ⟨nb', k, sx, n, a, v, xs⟩).kids.length + K.fuel) W R := by rw [HR.out]
 rw [hg]
 have hst : St E M w0 rows (some ⟨nb', k, sx, n, a, v, xs⟩) [] s W := ⟨hr, hbx, htb⟩
 obtain ⟨A, cap, hv, hc1, hc2⟩ := row_form hst.gown
 have hv' : v = .slice A xs.length cap := hv
 subst hv'
 have hxc : xs.length ≤ 10 := by simpa [Gv.nd, Nd.kids] using hc
 have hfu := hK.fuel
 have HB0 := Lib.hid hbx.fp
 have HP := Lib.hid hP
 have HSS := Lib.hid hSS
 obtain ⟨i0, hi0, hz0, hz1, hz2⟩ := info_parts infoNd
 clear hneR hne hr hbx hv hc htb hc1 hP hSS hg
 have a1B := hst.bx.c1 hrb
 obtain ⟨q1_PB0, y1_PB0⟩ := hst.bx.c1 hpb
 have gg1 := hst.gcells
 have HS0 := Lib.hid hst
 clear hst
 go_enter Tryz.func229, Tryz.ntmps229
 go_wp2_with fail
 go_at_call 38
 refine (ends_rd hE HS0.rd).mono ?_
 rintro e w2 ⟨rfl, hr2, hf2⟩
 have hu2 : W.heap.size ≤ w2.heap.size := by have h0 := Foot.size hf2; (try simp only [sz] at h0); omega
 clear a1B q1_PB0 y1_PB0 gg1
 have hs3 := (HS0.go hr2 hf2); try simp only [sz] at hs3
 have a4B := hs3.bx.c1 hrb
 obtain ⟨q4_PB0, y4_PB0⟩ := hs3.bx.c1 hpb
 have gg4 := hs3.gcells
 have HS3 := Lib.hid hs3
 clear hs3 hr2 hf2 a4B q4_PB0 y4_PB0 gg4
 go_wp2_with fail
 go_loopg [] K.fuel (fun f wr => ∃ (s2 : Rs) (A2 : Option Addr) (cap2 : Nat) (xs2 : List (Nd × Value)), xs2.length + f ≤ xs.length + K.fuel ∧ W.heap.size ≤ wr.heap.size ∧ Hid (St E M w0 rows (some ⟨nb', k, sx, n, a, .slice A2 xs2.length cap2, xs2⟩) [] s2 wr) ∧ Hid (casesL E (casedR E K part) f (Gv.nd ⟨nb', k, sx, n, a, .slice A2 xs2.length cap2, xs2⟩) s2 = R))
 case atStart => exact ⟨_, A, cap, xs, by omega, by (try simp only [sz]); omega, HS3.out, HR.out⟩
 case round =>
  obtain ⟨s2, A2, cap2, xs2, hxf, hur, HL2, HSL2⟩ := hrel
  cases gk with
  | zero => exact absurd HSL2.symm HNE.out
  | succ g =>
  have hbd : ((xs2.length : Int) < (xs2.length : Int) + 1) = True := by simp; omega
  have hspu := HSL2.out
  rw [casesL] at hspu
  have HSU := Lib.hid hspu
  clear hspu
  have a5B := HL2.bx.c1 hrb
  obtain ⟨q5_PB0, y5_PB0⟩ := HL2.bx.c1 hpb
  have gg5 := HL2.gcells
  cases he : isT E s2 [125] with
  | true =>
   have HSP6 := HSU; try simp only [he, reduceIte] at HSP6
   go_wp2_with fail
   go_at_call 139
   refine (is_any hE HL2.rd ⟨#[125]⟩ [125] rfl).mono ?_
   rw [he]
   rintro e w7 ⟨rfl, hb7⟩
   have hu7 : W.heap.size ≤ w7.heap.size := by have h0 := hb7.size; (try simp only [sz] at h0); omega
   clear a5B q5_PB0 y5_PB0 gg5
   have hs8 := (HL2.below hb7); try simp only [sz] at hs8
   have a9B := hs8.bx.c1 hrb
   obtain ⟨q9_PB0, y9_PB0⟩ := hs8.bx.c1 hpb
   have gg9 := hs8.gcells
   have HS8 := Lib.hid hs8
   clear hs8 hb7
   go_wp2_with fail
   go_end0
   exact clo_end (HSP6.out).symm HS8.out rfl rfl HB0.out (by (try simp only [sz]); omega) (by simp [Gv.nd, Nd.kids]; omega)
  | false =>
  have HSP6 := HSU; try simp only [he, sm, reduceIte] at HSP6
  go_wp2_with fail
  go_at_call 139
  refine (is_any hE HL2.rd ⟨#[125]⟩ [125] rfl).mono ?_
  rw [he]
  rintro e w7 ⟨rfl, hb7⟩
  have hu7 : W.heap.size ≤ w7.heap.size := by have h0 := hb7.size; (try simp only [sz] at h0); omega
  clear a5B q5_PB0 y5_PB0 gg5
  have hs8 := (HL2.below hb7); try simp only [sz] at hs8
  have a9B := hs8.bx.c1 hrb
  obtain ⟨q9_PB0, y9_PB0⟩ := hs8.bx.c1 hpb
  have gg9 := hs8.gcells
  have HS8 := Lib.hid hs8
  clear hs8 hb7
  go_wp2_with fail
  clear a9B q9_PB0 y9_PB0 gg9
  have hs10 := HS8.drew
  refine wp_region_G [7] (fun Wx => Wx.cell? ⟨nb', 4, none⟩ = some (.slice A2 xs2.length cap2) ∧ Wx.cell? ⟨rb, 0, none⟩ = some (.pointer (some ⟨M.bp, 0, none⟩)) ∧ Wx.cell? ⟨pb, 0, none⟩ = some (.func (.func fp) fi ca)) (by rfl) ?_ (fun hHeld => ?_)
  · exact ⟨hs10.gcells.2.2.2.2.1, hs10.a hrb 0, hs10.a hpb 0⟩
  have hu10 := hu_drew hs10 (x := W.heap.size) (by (try simp only [sz]); omega)
  revert hs10 hHeld hu10
  generalize World.drew _ = wd10
  intro hs10 hHeld hu10
  refine tk 0 (h := tk 1 (h := tk 2 (h := tk 3 (h := tk 5 (h := ?_)))))
  try simp only [nm]
  refine wpAnyG_ready (rs := [4, 6]) (by kernel_rfl) (by simp) ?_
  refine AllReadyG.cons rfl (fun KK hKK => ?_) (AllReadyG.cons rfl (fun KK hKK => ?_) AllReadyG.nil)
  ·
   go_simp
   go_at_call 230
   refine Post.use HSP6.out HNE.out (fun h0 => cased_rd hE hK HP.out (HSS.out _ _ _ _ _ (fun r hr => hr) hs10) hs10.rd h0) (fun i W' hi hf => ⟨rfl, clo_bad hi (foot_of HB0.out (hs10.fp.trans hf) (by have h0 := Foot.size hf; (try simp only [sz] at h0); omega))⟩) ?_
   intro x11 s11 v11 w11 hsp11 hv11 hr11 hf11
   have hu11 : W.heap.size ≤ w11.heap.size := by have h0 := Foot.size hf11; (try simp only [sz] at h0); omega
   obtain ⟨k11, t11, n11, a11, ks11⟩ := x11
   obtain ⟨A11, cap11, rfl⟩ := VNd.form hv11
   have HSP11 := Lib.hid hsp11
   clear hsp11
   have hs12 := (hs10.read hr11 hf11 hv11); try simp only [sz] at hs12
   clear hs10 hHeld
   refine hKK.out _ _ (⟨hs12.gcells.2.2.2.2.1, hs12.a hrb 0, hs12.a hpb 0⟩) (fun hHeld => ?_)
   clear hKK KK
   try simp only [nm]
   refine rd1 6 fun KK hKK => ?_
   go_simp
   have hs13 := (hs12.pz); try simp only [sz] at hs13
   clear hs12
   have hu14 := hu_push hs13 (x := W.heap.size) hu11
   revert hs13 hu14
   generalize World.alloc _ _ = wq14
   intro hs13 hu14
   clear hHeld
   refine hKK.out _ _ (⟨hs13.gcells.2.2.2.2.1, hs13.a (U1 hrb) 0, hs13.a (U1 hpb) 0⟩) (fun hHeld => ?_)
   clear hKK KK
   try simp only [nm]
   refine rl1 7 fun KK hKK => ?_
   refine apl 9 14 hs13 M0 xs2.length (h := ?_)
   intro b15 capb15 w15 ho15 hg15 hb15 hbl15
   obtain ⟨he15, ef15, n415, nf15, hne15, hbox15, hlen15⟩ := hs13.newElem rfl ho15 hg15 hb15
   obtain ⟨e15_0, e15_1, e15_2, e15_3, e15_4⟩ := he15
   have hnx15 : (nb' = b15) = False := by simpa using fun e => hne15 e.symm
   have hny15 : (b15 = nb') = False := by simpa using hne15
   have HSF15 := Lib.hid (And.intro hs13 (And.intro ho15 (And.intro hg15 (And.intro hb15 (And.intro hbox15 hlen15)))))
   clear hs13 ho15 hg15 hb15 hHeld
   refine hKK.out _ _ ?_
   clear hKK KK
   refine tq 8 (h := tq 10 (h := ?_))
   try simp only [nm]
   refine wpAny_ready' (rs := [9, 11]) (by kernel_rfl) (by simp) ?_
   refine allReady_cons rfl (fun KK hKK => ?_) (allReady_cons rfl (fun KK hKK => ?_) allReady_nil)
   ·
    go_simp
    refine hKK.out _ _ ?_
    clear hKK KK
    try simp only [nm]
    refine rp1 11 fun KK hKK => ?_
    go_simp
    refine hKK.out _ _ ?_
    clear hKK KK
    try simp only [nm]
    refine wpAny_done (by kernel_rfl) ?_ _
    go_wp2_with fail
    have hA15 := AppSt.fin (lo := w0.heap.size) (((AppSt.init HSF15.out.2.1 HSF15.out.2.2.2.2.1).elem (fun e => hne15 e.symm) (xs2.length * 5) (.int .i64 k11) (.string t11) (.int .i64 n11) (.int .i64 a11) (.slice A11 ks11.length cap11)).box_ (fun e => hne15 e.symm) (.slice (some ⟨b15, 0, none⟩) (xs2.length + 1) capb15)) (set5_list _ _ _ _ _ _ _ _ _ _ _ HSF15.out.2.2.2.2.2)
    have hsz15 : W.heap.size ≤ w15.heap.size := Nat.le_trans (by (try simp only [sz]); omega) HSF15.out.2.2.1.size
    go_roundg g
    case measure => omega
    case rel => exact ⟨_, _, _, xs2 ++ [(.mk k11 t11 n11 a11 ks11, .agg #[.int .i64 k11, .string t11, .int .i64 n11, .int .i64 a11, .slice A11 ks11.length cap11])], by simp; omega, by (try simp only [sz]); omega, Lib.hid (by simpa using (HSF15.out.1.appendedN (m := xs2.length) (N := 1) (zs := [.int .i64 0, .string ⟨#[]⟩, .int .i64 0, .int .i64 0, .slice none 0 0]) rfl rfl HSF15.out.2.1 HSF15.out.2.2.1 HSF15.out.2.2.2.1 (ys := [(.mk k11 t11 n11 a11 ks11, .agg #[.int .i64 k11, .string t11, .int .i64 n11, .int .i64 a11, .slice A11 ks11.length cap11])]) (memC M0 (mem0 _)) hA15 rfl).retire.mono_ts (mem0 _)), Lib.hid (by simpa [Gv.nd, Nd.push] using HSP11.out)⟩
   ·
    go_simp
    refine hKK.out _ _ ?_
    clear hKK KK
    try simp only [nm]
    refine rp1 9 fun KK hKK => ?_
    go_simp
    refine hKK.out _ _ ?_
    clear hKK KK
    try simp only [nm]
    refine wpAny_done (by kernel_rfl) ?_ _
    go_wp2_with fail
    have hA15 := AppSt.fin (lo := w0.heap.size) (((AppSt.init HSF15.out.2.1 HSF15.out.2.2.2.2.1).box_ (fun e => hne15 e.symm) (.slice (some ⟨b15, 0, none⟩) (xs2.length + 1) capb15)).elem (fun e => hne15 e.symm) (xs2.length * 5) (.int .i64 k11) (.string t11) (.int .i64 n11) (.int .i64 a11) (.slice A11 ks11.length cap11)) (set5_list _ _ _ _ _ _ _ _ _ _ _ HSF15.out.2.2.2.2.2)
    have hsz15 : W.heap.size ≤ w15.heap.size := Nat.le_trans (by (try simp only [sz]); omega) HSF15.out.2.2.1.size
    go_roundg g
    case measure => omega
    case rel => exact ⟨_, _, _, xs2 ++ [(.mk k11 t11 n11 a11 ks11, .agg #[.int .i64 k11, .string t11, .int .i64 n11, .int .i64 a11, .slice A11 ks11.length cap11])], by simp; omega, by (try simp only [sz]); omega, Lib.hid (by simpa using (HSF15.out.1.appendedN (m := xs2.length) (N := 1) (zs := [.int .i64 0, .string ⟨#[]⟩, .int .i64 0, .int .i64 0, .slice none 0 0]) rfl rfl HSF15.out.2.1 HSF15.out.2.2.1 HSF15.out.2.2.2.1 (ys := [(.mk k11 t11 n11 a11 ks11, .agg #[.int .i64 k11, .string t11, .int .i64 n11, .int .i64 a11, .slice A11 ks11.length cap11])]) (memC M0 (mem0 _)) hA15 rfl).retire.mono_ts (mem0 _)), Lib.hid (by simpa [Gv.nd, Nd.push] using HSP11.out)⟩
  ·
   go_simp
   have hs11 := (hs10.pz); try simp only [sz] at hs11
   clear hs10
   have hu12 := hu_push hs11 (x := W.heap.size) hu10
   revert hs11 hu12
   generalize World.alloc _ _ = wq12
   intro hs11 hu12
   clear hHeld
   refine hKK.out _ _ (⟨hs11.gcells.2.2.2.2.1, hs11.a (U1 hrb) 0, hs11.a (U1 hpb) 0⟩) (fun hHeld => ?_)
   clear hKK KK
   try simp only [nm]
   refine rd1 4 fun KK hKK => ?_
   go_simp
   go_at_call 230
   refine Post.use HSP6.out HNE.out (fun h0 => cased_rd hE hK HP.out (HSS.out _ _ _ _ _ (fun r hr => List.mem_cons_of_mem _ (hr)) hs11) hs11.rd h0) (fun i W' hi hf => ⟨rfl, clo_bad hi (foot_of HB0.out (hs11.fp.trans hf) (by have h0 := Foot.size hf; (try simp only [sz] at h0); omega))⟩) ?_
   intro x13 s13 v13 w13 hsp13 hv13 hr13 hf13
   have hu13 : W.heap.size ≤ w13.heap.size := by have h0 := Foot.size hf13; (try simp only [sz] at h0); omega
   obtain ⟨k13, t13, n13, a13, ks13⟩ := x13
   obtain ⟨A13, cap13, rfl⟩ := VNd.form hv13
   have HSP13 := Lib.hid hsp13
   clear hsp13
   have hs14 := (hs11.read hr13 hf13 hv13); try simp only [sz] at hs14
   clear hs11 hHeld
   refine hKK.out _ _ (⟨hs14.gcells.2.2.2.2.1, hs14.a (U1 hrb) 0, hs14.a (U1 hpb) 0⟩) (fun hHeld => ?_)
   clear hKK KK
   try simp only [nm]
   refine rl1 7 fun KK hKK => ?_
   refine apl 9 14 hs14 M0 xs2.length (h := ?_)
   intro b15 capb15 w15 ho15 hg15 hb15 hbl15
   obtain ⟨he15, ef15, n415, nf15, hne15, hbox15, hlen15⟩ := hs14.newElem rfl ho15 hg15 hb15
   obtain ⟨e15_0, e15_1, e15_2, e15_3, e15_4⟩ := he15
   have hnx15 : (nb' = b15) = False := by simpa using fun e => hne15 e.symm
   have hny15 : (b15 = nb') = False := by simpa using hne15
   have HSF15 := Lib.hid (And.intro hs14 (And.intro ho15 (And.intro hg15 (And.intro hb15 (And.intro hbox15 hlen15)))))
   clear hs14 ho15 hg15 hb15 hHeld
   refine hKK.out _ _ ?_
   clear hKK KK
   refine tq 8 (h := tq 10 (h := ?_))
   try simp only [nm]
   refine wpAny_ready' (rs := [9, 11]) (by kernel_rfl) (by simp) ?_
   refine allReady_cons rfl (fun KK hKK => ?_) (allReady_cons rfl (fun KK hKK => ?_) allReady_nil)
   ·
    go_simp
    refine hKK.out _ _ ?_
    clear hKK KK
    try simp only [nm]
    refine rp1 11 fun KK hKK => ?_
    go_simp
    refine hKK.out _ _ ?_
    clear hKK KK
    try simp only [nm]
    refine wpAny_done (by kernel_rfl) ?_ _
    go_wp2_with fail
    have hA15 := AppSt.fin (lo := w0.heap.size) (((AppSt.init HSF15.out.2.1 HSF15.out.2.2.2.2.1).elem (fun e => hne15 e.symm) (xs2.length * 5) (.int .i64 k13) (.string t13) (.int .i64 n13) (.int .i64 a13) (.slice A13 ks13.length cap13)).box_ (fun e => hne15 e.symm) (.slice (some ⟨b15, 0, none⟩) (xs2.length + 1) capb15)) (set5_list _ _ _ _ _ _ _ _ _ _ _ HSF15.out.2.2.2.2.2)
    have hsz15 : W.heap.size ≤ w15.heap.size := Nat.le_trans (by (try simp only [sz]); omega) HSF15.out.2.2.1.size
    go_roundg g
    case measure => omega
    case rel => exact ⟨_, _, _, xs2 ++ [(.mk k13 t13 n13 a13 ks13, .agg #[.int .i64 k13, .string t13, .int .i64 n13, .int .i64 a13, .slice A13 ks13.length cap13])], by simp; omega, by (try simp only [sz]); omega, Lib.hid (by simpa using (HSF15.out.1.appendedN (m := xs2.length) (N := 1) (zs := [.int .i64 0, .string ⟨#[]⟩, .int .i64 0, .int .i64 0, .slice none 0 0]) rfl rfl HSF15.out.2.1 HSF15.out.2.2.1 HSF15.out.2.2.2.1 (ys := [(.mk k13 t13 n13 a13 ks13, .agg #[.int .i64 k13, .string t13, .int .i64 n13, .int .i64 a13, .slice A13 ks13.length cap13])]) (memC M0 (mem0 _)) hA15 rfl).retire.mono_ts (mem0 _)), Lib.hid (by simpa [Gv.nd, Nd.push] using HSP13.out)⟩
   ·
    go_simp
    refine hKK.out _ _ ?_
    clear hKK KK
    try simp only [nm]
    refine rp1 9 fun KK hKK => ?_
    go_simp
    refine hKK.out _ _ ?_
    clear hKK KK
    try simp only [nm]
    refine wpAny_done (by kernel_rfl) ?_ _
    go_wp2_with fail
    have hA15 := AppSt.fin (lo := w0.heap.size) (((AppSt.init HSF15.out.2.1 HSF15.out.2.2.2.2.1).box_ (fun e => hne15 e.symm) (.slice (some ⟨b15, 0, none⟩) (xs2.length + 1) capb15)).elem (fun e => hne15 e.symm) (xs2.length * 5) (.int .i64 k13) (.string t13) (.int .i64 n13) (.int .i64 a13) (.slice A13 ks13.length cap13)) (set5_list _ _ _ _ _ _ _ _ _ _ _ HSF15.out.2.2.2.2.2)
    have hsz15 : W.heap.size ≤ w15.heap.size := Nat.le_trans (by (try simp only [sz]); omega) HSF15.out.2.2.1.size
    go_roundg g
    case measure => omega
    case rel => exact ⟨_, _, _, xs2 ++ [(.mk k13 t13 n13 a13 ks13, .agg #[.int .i64 k13, .string t13, .int .i64 n13, .int .i64 a13, .slice A13 ks13.length cap13])], by simp; omega, by (try simp only [sz]); omega, Lib.hid (by simpa using (HSF15.out.1.appendedN (m := xs2.length) (N := 1) (zs := [.int .i64 0, .string ⟨#[]⟩, .int .i64 0, .int .i64 0, .slice none 0 0]) rfl rfl HSF15.out.2.1 HSF15.out.2.2.1 HSF15.out.2.2.2.1 (ys := [(.mk k13 t13 n13 a13 ks13, .agg #[.int .i64 k13, .string t13, .int .i64 n13, .int .i64 a13, .slice A13 ks13.length cap13])]) (memC M0 (mem0 _)) hA15 rfl).retire.mono_ts (mem0 _)), Lib.hid (by simpa [Gv.nd, Nd.push] using HSP13.out)⟩


theorem openR_congr {α : Type} {b e : List UInt8} {m1 m2 : α → Rs → Rr α} {a : α} (h : ∀ s, m1 a s = m2 a s) (s : Rs) : openR E b e m1 a s = openR E b e m2 a s := by
 unfold openR
 simp only [h]
set_option maxRecDepth 100000 in
theorem post_form (hE : EnvOk E M) (hK : KOK E M K) (hix : IndexOk E M K) : Form E M 146 (postR E K) := ⟨fun _W => rfl, fun _s _W h h0 => post_rd hE hK hix h h0⟩
theorem hss_expr {rows : List Rw} : ∀ rows' gs ts s W', (∀ r ∈ rows, r ∈ rows') → St E M w0 rows' gs ts s W' → (fun _ : World => True) W' := fun _ _ _ _ _ _ _ => trivial
theorem hss_types {rows : List Rw} {rb : Nat} (hrb : (rb, #[.pointer (some ⟨M.bp, 0, none⟩)], 75) ∈ rows) : ∀ rows' gs ts s W', (∀ r ∈ rows, r ∈ rows') → St E M w0 rows' gs ts s W' → (fun W => W.cell? ⟨rb, 0, none⟩ = some (.pointer (some ⟨M.bp, 0, none⟩)) ∧ rb < W.heap.size ∧ rb ≠ M.bp) W' := fun rows' gs ts s W' hs h => by
 have hr := h.bx.rw _ (hs _ hrb)
 have hbp := h.bx.bp
 have h1 := hr.1
 refine ⟨h.bx.at_ (hs _ hrb) 0 rfl, (Array.getElem?_eq_some_iff.1 hr.2).1, ?_⟩
 simp only at h1
 omega

set_option maxRecDepth 100000 in
set_option maxHeartbeats 16000000 in
theorem choice_rd (hE : EnvOk E M) (hK : KOK E M K) (hix : IndexOk E M K) (h : RdAt E M s W) {label : List UInt8} {at0 : Int} (hl0 : (bs label).size ≤ 140737488351232) (ha0 : okI at0) (hne : choiceR E K label at0 s ≠ .out) :
 Calls Tryz.prog 183 #[.pointer (some ⟨M.bp, 0, none⟩), .string (bs label), .int .i64 at0] W (Post E M VNd W (choiceR E K label at0 s)) := by
 obtain ⟨R, HR⟩ : ∃ R, Hid (choiceR E K label at0 s = R) := ⟨_, rfl⟩
 have hneR : R ≠ .out := by rw [← HR.out]; exact hne
 clear hne
 rw [HR.out]
 have HNE := Lib.hid hneR
 have HSP0 := HR
 unfold choiceR at HSP0
 have hs1 := (((St.init h).push #[.pointer (some ⟨M.bp, 0, none⟩)] 75).pz)
 simp only [World.size_alloc] at hs1
 have a1 := J2 (F5 hs1 M0) (F1 hs1 M1)
 have HS1 := Lib.hid hs1
 clear hs1
 have hfi0 := fieldTok0
 have hfi1 := fieldTok1
 have hfi2 := fieldTok2
 have hfn0 := fieldNd0
 have hfn1 := fieldNd1
 have hmf : ∀ (fn : Fn) (first cap : Array Value) (w : World), (Instr.makeFunc fn first cap).run Tryz.prog w = .ok (.func fn first cap) w := fun _ _ _ _ => rfl
 have hsf : ∀ (a : Addr) (fn : Fn) (first cap : Array Value) (w : World), (store a (.func fn first cap)).run Tryz.prog w = stored Tryz.prog w a (.func fn first cap) .plain := fun a fn first cap w => run_store Tryz.prog w a _ _ rfl
 have hn0 := hE.n
 clear hneR h
 go_enter Tryz.func183, Tryz.ntmps183
 go_wp2_with fail
 go_at_call 145
 refine (none_rd hE HS1.rd).mono ?_
 rintro e w2 ⟨rfl, hb2⟩
 clear a1
 have HS3 := Lib.hid (((HS1.below hb2).push #[.int .i64 16, .string ⟨#[]⟩, .int .i64 0, .int .i64 (cur E s).at_, .slice none 0 0] 25).push #[.int .i64 25, .string (bs label), .int .i64 0, .int .i64 at0, .slice (some ⟨w2.heap.size, 0, none⟩) 1 1] 25); try simp only [sz] at HS3
 have a4 := J4 (F5 HS3 M0) (F5 HS3 M1) (F5 HS3 M2) (F1 HS3 M3)
 clear hb2 a4
 have HS6 := Lib.hid (HS3.tree (t := .mk 16 ⟨#[]⟩ 0 (cur E s).at_ []) (v := .agg #[.int .i64 16, .string ⟨#[]⟩, .int .i64 0, .int .i64 (cur E s).at_, .slice none 0 0]) (LiesP.leaf ok_lit ok_lit (hE.at_ _) (by decide))); try simp only [sz] at HS6
 have a7 := J4 (F5 HS6 M0) (F5 HS6 M1) (F5 HS6 M2) (F1 HS6 M3)
 go_upto_block 0 with fail
 go_cut [] (fun wx => ∃ (s1 : Rs) (kk : Int) (lb : Nat) (xs : List (Nd × Value)) (cs : Array Value), (kk = 25 ∨ kk = 26) ∧ xs.length ≤ 2 ∧ Hid (treeCells xs = cs.toList) ∧ Hid (St E M W [(lb, cs, 25), ((w2.heap.size + 1), #[.int .i64 kk, .string (bs label), .int .i64 0, .int .i64 at0, .slice (some ⟨lb, 0, none⟩) xs.length xs.length], 25), ((W.heap.size + 1), #[.int .i64 0, .string ⟨#[]⟩, .int .i64 0, .int .i64 0, .slice none 0 0], 25), (W.heap.size, #[.pointer (some ⟨M.bp, 0, none⟩)], 75)] none xs s1 wx) ∧ Hid (openR E [123] [125] (fun a s => casesL E (casedR E K (if a.kind == 26 then typ1R E [[109, 97, 112], [102, 117, 110, 99], [97, 110, 121], [110, 105, 108]] else K.expr)) K.fuel a (endsS E s)) (.mk kk (bs label) 0 at0 (xs.map (fun x : Nd × Value => x.1))) s1 = R))
 case first =>
  go_upto_region 2 with fail
  go_cut [21] (fun s21 wx => s21 = .bool (namedB (cur E s) && isW (nxt E s) [58, 61]) ∧ Hid (St E M W [((w2.heap.size + 1), #[.int .i64 25, .string (bs label), .int .i64 0, .int .i64 at0, .slice (some ⟨w2.heap.size, 0, none⟩) 1 1], 25), (w2.heap.size, #[.int .i64 16, .string ⟨#[]⟩, .int .i64 0, .int .i64 (cur E s).at_, .slice none 0 0], 25), ((W.heap.size + 1), #[.int .i64 0, .string ⟨#[]⟩, .int .i64 0, .int .i64 0, .slice none 0 0], 25), (W.heap.size, #[.pointer (some ⟨M.bp, 0, none⟩)], 75)] none [(.mk 16 ⟨#[]⟩ 0 (cur E s).at_ [], .agg #[.int .i64 16, .string ⟨#[]⟩, .int .i64 0, .int .i64 (cur E s).at_, .slice none 0 0])] s wx))
  case first =>
   go_wp2_with fail
   go_at_call 42
   refine (at0_rd hE HS6.rd).mono ?_
   rintro e w8 ⟨rfl, hb8⟩
   clear a7
   have HS9 := Lib.hid (HS6.below hb8); try simp only [sz] at HS9
   have a10N := F5 HS9 M0
   have a10L := F5 HS9 M1
   have a10 := J2 (F5 HS9 M2) (F1 HS9 M3)
   clear hb8
   cases hnm : namedB (cur E s) with
   | true =>
    go_wp2_with fail
    go_at_call 141
    refine (named_tok (E := E) s.i _).mono ?_
    rw [show namedB (E.tok s.i) = true from hnm]
    rintro e w11 ⟨rfl, hb11⟩
    clear a10N a10L a10
    have HS12 := Lib.hid (HS9.below hb11); try simp only [sz] at HS12
    have a13 := J4 (F5 HS12 M0) (F5 HS12 M1) (F5 HS12 M2) (F1 HS12 M3)
    clear hb11
    go_wp2_with fail
    go_at_call 42
    refine (at1_rd hE HS12.rd).mono ?_
    rintro e w14 ⟨rfl, hb14⟩
    clear a13
    have HS15 := Lib.hid (HS12.below hb14); try simp only [sz] at HS15
    have a16 := J4 (F5 HS15 M0) (F5 HS15 M1) (F5 HS15 M2) (F1 HS15 M3)
    clear hb14
    obtain ⟨b1, hb1⟩ : ∃ b, isW (nxt E s) [58, 61] = b := ⟨_, rfl⟩
    go_wp2_with fail
    go_at_call 138
    refine (word_tok (E := E) (s.i + 1) ⟨#[58, 61]⟩ [58, 61] rfl _).mono ?_
    rw [show isW (E.tok (s.i + 1)) [58, 61] = b1 from hb1]
    rintro e w17 ⟨rfl, hb17⟩
    clear a16
    have HS18 := Lib.hid (HS15.below hb17); try simp only [sz] at HS18
    have a19 := J4 (F5 HS18 M0) (F5 HS18 M1) (F5 HS18 M2) (F1 HS18 M3)
    clear hb17
    go_wp2_with fail
    go_meet
    exact ⟨by rw [hnm, hb1]; rfl, HS18.swap4.swap4.swap4.swap4⟩
   | false =>
   go_wp2_with fail
   go_at_call 141
   refine (named_tok (E := E) s.i _).mono ?_
   rw [show namedB (E.tok s.i) = false from hnm]
   rintro e w11 ⟨rfl, hb11⟩
   clear a10N a10L a10
   have HS12 := Lib.hid (HS9.below hb11); try simp only [sz] at HS12
   have a13 := J4 (F5 HS12 M0) (F5 HS12 M1) (F5 HS12 M2) (F1 HS12 M3)
   clear hb11
   go_wp2_with fail
   go_meet
   exact ⟨by rw [hnm]; rfl, HS12.swap4.swap4.swap4.swap4⟩
  case rest =>
   obtain ⟨rfl, HC0⟩ := hcut
   obtain ⟨b0, hb0⟩ : ∃ b, (namedB (cur E s) && isW (nxt E s) [58, 61]) = b := ⟨_, rfl⟩
   rw [hb0]
   have HSP8 := HSP0; try simp only [hb0] at HSP8
   have HB0 := Lib.hid hb0
   clear hb0
   have a9 := J4 (F5 HC0 M0) (F5 HC0 M1) (F5 HC0 M2) (F1 HC0 M3)
   cases b0 with
   | true =>
    have HSP10 := HSP8; try simp only [reduceIte] at HSP10
    have HSP11 := HSP10; try simp only [bind_assocR] at HSP11
    go_wp2_with fail
    go_at_call 87
    refine Post.use HSP11.out HNE.out (fun h0 => name_any hE HC0.out.rd) (be HC0.out.fp) ?_
    intro x12 s12 v12 w12 hsp12 hv12 hr12 hf12
    obtain ⟨k12, t12, n12, a12, ks12⟩ := x12
    obtain ⟨A12, cap12, rfl⟩ := VNd.form hv12
    clear a9
    have HS13 := Lib.hid ((HC0.out.read hr12 hf12 hv12).pn k12 t12 n12 a12 (.slice A12 ks12.length cap12)); try simp only [sz] at HS13
    have a14V := F5 HS13 M0
    have a14 := J4 (F5 HS13 M1) (F5 HS13 M2) (F5 HS13 M3) (F1 HS13 M4)
    have HSP12 := Lib.hid hsp12
    clear hsp12 hr12 hf12
    go_wp2_with fail
    go_at_call 90
    refine Post.use HSP12.out HNE.out (fun _ => want_any hE HS13.rd ⟨#[58, 61]⟩ [58, 61] rfl) (be HS13.fp) ?_
    intro x15 s15 v15 w15 hsp15 hv15 hr15 hf15
    obtain rfl : v15 = _ := hv15
    clear a14V a14
    have HS16 := Lib.hid (HS13.go hr15 hf15); try simp only [sz] at HS16
    have a17V := F5 HS16 M0
    have a17 := J4 (F5 HS16 M1) (F5 HS16 M2) (F5 HS16 M3) (F1 HS16 M4)
    have HSP15 := Lib.hid hsp15
    clear hsp15 hr15 hf15
    go_wp2_with fail
    go_at_call 227
    refine Post.use HSP15.out HNE.out (fun h0 => within_rd hE (post_form hE hK hix) HS16.rd true h0) (be HS16.fp) ?_
    intro x18 s18 v18 w18 hsp18 hv18 hr18 hf18
    obtain ⟨⟨k18, t18, n18, a18, ks18⟩, b18⟩ := x18
    obtain ⟨u18, rfl, hv18⟩ := hv18
    obtain ⟨A18, cap18, rfl⟩ := VNd.form hv18
    clear a17V a17
    have HS19 := Lib.hid ((HS16.read hr18 hf18 hv18).pn k18 t18 n18 a18 (.slice A18 ks18.length cap18)); try simp only at HS19
    have a20 := J6 (F5 HS19 M0) (F5 HS19 M1) (F5 HS19 M2) (F5 HS19 M3) (F5 HS19 M4) (F1 HS19 M5)
    have HSP18 := Lib.hid hsp18
    clear hsp18 hr18 hf18
    cases b18 with
    | false =>
     have HSP21 := HSP18; try simp only [Bool.false_eq_true, reduceIte] at HSP21
     have HSP22 := HSP21; try simp only [Rr.bind_bad] at HSP22
     go_wp2_with fail
     go_at_call 44
     refine (fail_any hE HS19.rd).mono ?_
     rintro e wz ⟨rfl, hbz⟩
     exact ⟨rfl, bad_end (HSP22.out).symm (HS19.below hbz).fp⟩
    | true =>
    have HSP21 := HSP18; try simp only [sm, reduceIte] at HSP21
    go_wp2_with fail
    clear a20
    have hs22 := HS19.drew
    refine wp_region_G [] (fun Wx => Wx.cell? ⟨w12.heap.size, 0, none⟩ = some (.int .i64 k12) ∧ Wx.cell? ⟨w12.heap.size, 1, none⟩ = some (.string t12) ∧ Wx.cell? ⟨w12.heap.size, 2, none⟩ = some (.int .i64 n12) ∧ Wx.cell? ⟨w12.heap.size, 3, none⟩ = some (.int .i64 a12) ∧ Wx.cell? ⟨w12.heap.size, 4, none⟩ = some (.slice A12 ks12.length cap12) ∧ Wx.cell? ⟨w18.heap.size, 0, none⟩ = some (.int .i64 k18) ∧ Wx.cell? ⟨w18.heap.size, 1, none⟩ = some (.string t18) ∧ Wx.cell? ⟨w18.heap.size, 2, none⟩ = some (.int .i64 n18) ∧ Wx.cell? ⟨w18.heap.size, 3, none⟩ = some (.int .i64 a18) ∧ Wx.cell? ⟨w18.heap.size, 4, none⟩ = some (.slice A18 ks18.length cap18)) (by rfl) ?_ (fun hHeld => ?_)
    · exact ⟨hs22.a M1 0, hs22.a M1 1, hs22.a M1 2, hs22.a M1 3, hs22.a M1 4, hs22.a M0 0, hs22.a M0 1, hs22.a M0 2, hs22.a M0 3, hs22.a M0 4⟩
    revert hs22 hHeld
    generalize World.drew _ = wd22
    intro hs22 hHeld
    refine tk 0 (h := tk 1 (h := tk 3 (h := ?_)))
    try simp only [nm]
    refine wpAnyG_ready (rs := [2, 4]) (by kernel_rfl) (by simp) ?_
    refine AllReadyG.cons rfl (fun KK hKK => ?_) (AllReadyG.cons rfl (fun KK hKK => ?_) AllReadyG.nil)
    ·
     go_simp
     have hs23 := (hs22.push #[.int .i64 k12, .string t12, .int .i64 n12, .int .i64 a12, .slice A12 ks12.length cap12, .int .i64 k18, .string t18, .int .i64 n18, .int .i64 a18, .slice A18 ks18.length cap18] 25); try simp only [sz] at hs23
     clear hs22
     revert hs23
     generalize World.alloc _ _ = wq24
     intro hs23
     clear hHeld
     refine hKK.out _ _ (⟨hs23.a M2 0, hs23.a M2 1, hs23.a M2 2, hs23.a M2 3, hs23.a M2 4, hs23.a M1 0, hs23.a M1 1, hs23.a M1 2, hs23.a M1 3, hs23.a M1 4⟩) (fun hHeld => ?_)
     clear hKK KK
     try simp only [nm]
     refine rd1 4 fun KK hKK => ?_
     have a25N := F5 hs23 M3
     go_simp
     clear a25N
     have hs26 := (hs23.swap4.setRow 0 (.int .i64 26)); try simp only [sz] at hs26
     clear hs23
     revert hs26
     generalize World.setCell _ _ _ = wq27
     intro hs26
     clear hHeld
     refine hKK.out _ _ (⟨hs26.a M3 0, hs26.a M3 1, hs26.a M3 2, hs26.a M3 3, hs26.a M3 4, hs26.a M2 0, hs26.a M2 1, hs26.a M2 2, hs26.a M2 3, hs26.a M2 4⟩) (fun hHeld => ?_)
     clear hKK KK
     refine tk 5 (h := ?_)
     try simp only [nm]
     refine rd1 6 fun KK hKK => ?_
     have a28N := F5 hs26 M0
     go_simp
     clear a28N
     have hs29 := (hs26.setRow 4 (.slice (some ⟨wd22.heap.size, 0, none⟩) 2 2)); try simp only [sz] at hs29
     clear hs26
     revert hs29
     generalize World.setCell _ _ _ = wq30
     intro hs29
     clear hHeld
     refine hKK.out _ _ (⟨hs29.a M3 0, hs29.a M3 1, hs29.a M3 2, hs29.a M3 3, hs29.a M3 4, hs29.a M2 0, hs29.a M2 1, hs29.a M2 2, hs29.a M2 3, hs29.a M2 4⟩) (fun hHeld => ?_)
     clear hKK KK
     try simp only [nm]
     refine wpAnyG_done (by kernel_rfl) ?_ _
     go_wp2_with fail
     go_meet
     exact ⟨_, 26, _, [(.mk k12 t12 n12 a12 ks12, .agg #[.int .i64 k12, .string t12, .int .i64 n12, .int .i64 a12, .slice A12 ks12.length cap12]), (.mk k18 t18 n18 a18 ks18, .agg #[.int .i64 k18, .string t18, .int .i64 n18, .int .i64 a18, .slice A18 ks18.length cap18])], _, by decide, by simp, rfl, (hs29.swap3.retire.swap3.retire.swap3.retire.swap4.swap4.swap3.swap4.mono_ts (memC M1 (memC M0 (mem0 _)))), HSP21.out⟩
    ·
     have a23N := F5 hs22 M2
     go_simp
     clear a23N
     have hs24 := (hs22.swap3.setRow 0 (.int .i64 26)); try simp only [sz] at hs24
     clear hs22
     revert hs24
     generalize World.setCell _ _ _ = wq25
     intro hs24
     clear hHeld
     refine hKK.out _ _ (⟨hs24.a M2 0, hs24.a M2 1, hs24.a M2 2, hs24.a M2 3, hs24.a M2 4, hs24.a M1 0, hs24.a M1 1, hs24.a M1 2, hs24.a M1 3, hs24.a M1 4⟩) (fun hHeld => ?_)
     clear hKK KK
     try simp only [nm]
     refine rd1 2 fun KK hKK => ?_
     go_simp
     have hs26 := (hs24.push #[.int .i64 k12, .string t12, .int .i64 n12, .int .i64 a12, .slice A12 ks12.length cap12, .int .i64 k18, .string t18, .int .i64 n18, .int .i64 a18, .slice A18 ks18.length cap18] 25); try simp only [sz] at hs26
     clear hs24
     revert hs26
     generalize World.alloc _ _ = wq27
     intro hs26
     clear hHeld
     refine hKK.out _ _ (⟨hs26.a M3 0, hs26.a M3 1, hs26.a M3 2, hs26.a M3 3, hs26.a M3 4, hs26.a M2 0, hs26.a M2 1, hs26.a M2 2, hs26.a M2 3, hs26.a M2 4⟩) (fun hHeld => ?_)
     clear hKK KK
     refine tk 5 (h := ?_)
     try simp only [nm]
     refine rd1 6 fun KK hKK => ?_
     have a28N := F5 hs26 M1
     go_simp
     clear a28N
     have hs29 := (hs26.swap.setRow 4 (.slice (some ⟨wq25.heap.size, 0, none⟩) 2 2)); try simp only [sz] at hs29
     clear hs26
     revert hs29
     generalize World.setCell _ _ _ = wq30
     intro hs29
     clear hHeld
     refine hKK.out _ _ (⟨hs29.a M3 0, hs29.a M3 1, hs29.a M3 2, hs29.a M3 3, hs29.a M3 4, hs29.a M2 0, hs29.a M2 1, hs29.a M2 2, hs29.a M2 3, hs29.a M2 4⟩) (fun hHeld => ?_)
     clear hKK KK
     try simp only [nm]
     refine wpAnyG_done (by kernel_rfl) ?_ _
     go_wp2_with fail
     go_meet
     exact ⟨_, 26, _, [(.mk k12 t12 n12 a12 ks12, .agg #[.int .i64 k12, .string t12, .int .i64 n12, .int .i64 a12, .slice A12 ks12.length cap12]), (.mk k18 t18 n18 a18 ks18, .agg #[.int .i64 k18, .string t18, .int .i64 n18, .int .i64 a18, .slice A18 ks18.length cap18])], _, by decide, by simp, rfl, (hs29.swap3.retire.swap3.retire.swap3.retire.swap4.swap4.swap3.swap4.mono_ts (memC M1 (memC M0 (mem0 _)))), HSP21.out⟩
   | false =>
   have HSP10 := HSP8; try simp only [Bool.false_eq_true, reduceIte] at HSP10
   cases hbr : isT E s [123] with
   | true =>
    have HSP11 := HSP10; try simp only [hbr, sm, reduceIte] at HSP11
    go_wp2_with fail
    go_at_call 139
    refine (is_any hE HC0.out.rd ⟨#[123]⟩ [123] rfl).mono ?_
    rw [hbr]
    rintro e w12 ⟨rfl, hb12⟩
    clear a9
    have HS13 := Lib.hid (HC0.out.below hb12); try simp only [sz] at HS13
    have a14 := J4 (F5 HS13 M0) (F5 HS13 M1) (F5 HS13 M2) (F1 HS13 M3)
    clear hb12
    go_wp2_with fail
    go_meet
    exact ⟨_, 25, _, [(.mk 16 ⟨#[]⟩ 0 (cur E s).at_ [], .agg #[.int .i64 16, .string ⟨#[]⟩, .int .i64 0, .int .i64 (cur E s).at_, .slice none 0 0])], _, by decide, by simp, rfl, (HS13.swap4.swap4.swap3.swap4.mono_ts (memC M0 (mem0 _))), HSP11.out⟩
   | false =>
   have HSP11 := HSP10; try simp only [hbr, sm, reduceIte] at HSP11
   go_wp2_with fail
   go_at_call 139
   refine (is_any hE HC0.out.rd ⟨#[123]⟩ [123] rfl).mono ?_
   rw [hbr]
   rintro e w12 ⟨rfl, hb12⟩
   clear a9
   have HS13 := Lib.hid (HC0.out.below hb12); try simp only [sz] at HS13
   have a14 := J4 (F5 HS13 M0) (F5 HS13 M1) (F5 HS13 M2) (F1 HS13 M3)
   clear hb12
   go_wp2_with fail
   go_at_call 145
   refine (none_rd hE HS13.rd).mono ?_
   rintro e w15 ⟨rfl, hb15⟩
   clear a14
   have HS16 := Lib.hid ((HS13.below hb15).push #[.int .i64 16, .string ⟨#[]⟩, .int .i64 0, .int .i64 (cur E s).at_, .slice none 0 0] 25); try simp only [sz] at HS16
   have a17 := J5 (F5 HS16 M0) (F5 HS16 M1) (F5 HS16 M2) (F5 HS16 M3) (F1 HS16 M4)
   clear hb15
   have HSP18 := HSP11; try simp only [bind_assocR] at HSP18
   go_wp2_with fail
   go_at_call 227
   refine Post.use HSP18.out HNE.out (fun h0 => within_rd hE (expr_form hK) HS16.rd true h0) (be HS16.fp) ?_
   intro x19 s19 v19 w19 hsp19 hv19 hr19 hf19
   obtain ⟨⟨k19, t19, n19, a19, ks19⟩, b19⟩ := x19
   obtain ⟨u19, rfl, hv19⟩ := hv19
   obtain ⟨A19, cap19, rfl⟩ := VNd.form hv19
   clear a17
   have HS20 := Lib.hid ((HS16.read hr19 hf19 hv19).pn k19 t19 n19 a19 (.slice A19 ks19.length cap19)); try simp only at HS20
   have a21 := J6 (F5 HS20 M0) (F5 HS20 M1) (F5 HS20 M2) (F5 HS20 M3) (F5 HS20 M4) (F1 HS20 M5)
   have HSP19 := Lib.hid hsp19
   clear hsp19 hr19 hf19
   have HS22 := Lib.hid (((((HS20.swap4.setRow 0 (.int .i64 k19)).setRow 1 (.string t19)).setRow 2 (.int .i64 n19)).setRow 3 (.int .i64 a19)).setRow 4 (.slice A19 ks19.length cap19)); try simp only [sz] at HS22
   have a23 := J6 (F5 HS22 M0) (F5 HS22 M1) (F5 HS22 M2) (F5 HS22 M3) (F5 HS22 M4) (F1 HS22 M5)
   cases b19 with
   | false =>
    have HSP24 := HSP19; try simp only [Bool.false_eq_true, sm, reduceIte] at HSP24
    go_wp2_with fail
    go_meet
    exact ⟨_, 25, _, [(.mk k19 t19 n19 a19 ks19, .agg #[.int .i64 k19, .string t19, .int .i64 n19, .int .i64 a19, .slice A19 ks19.length cap19])], _, by decide, by simp, rfl, (HS22.swap.retire.swap.retire.swap4.swap4.swap4.swap4.mono_ts (memC M0 (mem0 _))), HSP24.out⟩
   | true =>
   have HSP24 := HSP19; try simp only [sm, reduceIte] at HSP24
   go_wp2_with fail
   clear a21 a23
   have hs25 := HS22.drew
   refine wp_region_G [] (fun Wx => Wx.cell? ⟨w15.heap.size, 0, none⟩ = some (.int .i64 16) ∧ Wx.cell? ⟨w15.heap.size, 1, none⟩ = some (.string ⟨#[]⟩) ∧ Wx.cell? ⟨w15.heap.size, 2, none⟩ = some (.int .i64 0) ∧ Wx.cell? ⟨w15.heap.size, 3, none⟩ = some (.int .i64 (cur E s).at_) ∧ Wx.cell? ⟨w15.heap.size, 4, none⟩ = some (.slice none 0 0) ∧ Wx.cell? ⟨w19.heap.size, 0, none⟩ = some (.int .i64 k19) ∧ Wx.cell? ⟨w19.heap.size, 1, none⟩ = some (.string t19) ∧ Wx.cell? ⟨w19.heap.size, 2, none⟩ = some (.int .i64 n19) ∧ Wx.cell? ⟨w19.heap.size, 3, none⟩ = some (.int .i64 a19) ∧ Wx.cell? ⟨w19.heap.size, 4, none⟩ = some (.slice A19 ks19.length cap19)) (by rfl) ?_ (fun hHeld => ?_)
   · exact ⟨hs25.a M2 0, hs25.a M2 1, hs25.a M2 2, hs25.a M2 3, hs25.a M2 4, hs25.a M1 0, hs25.a M1 1, hs25.a M1 2, hs25.a M1 3, hs25.a M1 4⟩
   revert hs25 hHeld
   generalize World.drew _ = wd25
   intro hs25 hHeld
   refine tk 0 (h := tk 1 (h := tk 3 (h := ?_)))
   try simp only [nm]
   refine wpAnyG_ready (rs := [2, 4]) (by kernel_rfl) (by simp) ?_
   refine AllReadyG.cons rfl (fun KK hKK => ?_) (AllReadyG.cons rfl (fun KK hKK => ?_) AllReadyG.nil)
   ·
    go_simp
    have hs26 := (hs25.push #[.int .i64 16, .string ⟨#[]⟩, .int .i64 0, .int .i64 (cur E s).at_, .slice none 0 0, .int .i64 k19, .string t19, .int .i64 n19, .int .i64 a19, .slice A19 ks19.length cap19] 25); try simp only [sz] at hs26
    clear hs25
    revert hs26
    generalize World.alloc _ _ = wq27
    intro hs26
    clear hHeld
    refine hKK.out _ _ (⟨hs26.a M3 0, hs26.a M3 1, hs26.a M3 2, hs26.a M3 3, hs26.a M3 4, hs26.a M2 0, hs26.a M2 1, hs26.a M2 2, hs26.a M2 3, hs26.a M2 4⟩) (fun hHeld => ?_)
    clear hKK KK
    try simp only [nm]
    refine rd1 4 fun KK hKK => ?_
    have a28N := F5 hs26 M4
    go_simp
    clear a28N
    have hs29 := (hs26.swap5.setRow 0 (.int .i64 26)); try simp only [sz] at hs29
    clear hs26
    revert hs29
    generalize World.setCell _ _ _ = wq30
    intro hs29
    clear hHeld
    refine hKK.out _ _ (⟨hs29.a M4 0, hs29.a M4 1, hs29.a M4 2, hs29.a M4 3, hs29.a M4 4, hs29.a M3 0, hs29.a M3 1, hs29.a M3 2, hs29.a M3 3, hs29.a M3 4⟩) (fun hHeld => ?_)
    clear hKK KK
    refine tk 5 (h := ?_)
    try simp only [nm]
    refine rd1 6 fun KK hKK => ?_
    have a31N := F5 hs29 M0
    go_simp
    clear a31N
    have hs32 := (hs29.setRow 4 (.slice (some ⟨wd25.heap.size, 0, none⟩) 2 2)); try simp only [sz] at hs32
    clear hs29
    revert hs32
    generalize World.setCell _ _ _ = wq33
    intro hs32
    clear hHeld
    refine hKK.out _ _ (⟨hs32.a M4 0, hs32.a M4 1, hs32.a M4 2, hs32.a M4 3, hs32.a M4 4, hs32.a M3 0, hs32.a M3 1, hs32.a M3 2, hs32.a M3 3, hs32.a M3 4⟩) (fun hHeld => ?_)
    clear hKK KK
    try simp only [nm]
    refine wpAnyG_done (by kernel_rfl) ?_ _
    go_wp2_with fail
    go_meet
    exact ⟨_, 26, _, [(.mk 16 ⟨#[]⟩ 0 (cur E s).at_ [], .agg #[.int .i64 16, .string ⟨#[]⟩, .int .i64 0, .int .i64 (cur E s).at_, .slice none 0 0]), (.mk k19 t19 n19 a19 ks19, .agg #[.int .i64 k19, .string t19, .int .i64 n19, .int .i64 a19, .slice A19 ks19.length cap19])], _, by decide, by simp, rfl, (hs32.swap3.retire.swap3.retire.swap3.retire.swap4.swap4.swap3.swap4.mono_ts (memC M1 (memC M0 (mem0 _)))), HSP24.out⟩
   ·
    have a26N := F5 hs25 M3
    go_simp
    clear a26N
    have hs27 := (hs25.swap4.setRow 0 (.int .i64 26)); try simp only [sz] at hs27
    clear hs25
    revert hs27
    generalize World.setCell _ _ _ = wq28
    intro hs27
    clear hHeld
    refine hKK.out _ _ (⟨hs27.a M3 0, hs27.a M3 1, hs27.a M3 2, hs27.a M3 3, hs27.a M3 4, hs27.a M2 0, hs27.a M2 1, hs27.a M2 2, hs27.a M2 3, hs27.a M2 4⟩) (fun hHeld => ?_)
    clear hKK KK
    try simp only [nm]
    refine rd1 2 fun KK hKK => ?_
    go_simp
    have hs29 := (hs27.push #[.int .i64 16, .string ⟨#[]⟩, .int .i64 0, .int .i64 (cur E s).at_, .slice none 0 0, .int .i64 k19, .string t19, .int .i64 n19, .int .i64 a19, .slice A19 ks19.length cap19] 25); try simp only [sz] at hs29
    clear hs27
    revert hs29
    generalize World.alloc _ _ = wq30
    intro hs29
    clear hHeld
    refine hKK.out _ _ (⟨hs29.a M4 0, hs29.a M4 1, hs29.a M4 2, hs29.a M4 3, hs29.a M4 4, hs29.a M3 0, hs29.a M3 1, hs29.a M3 2, hs29.a M3 3, hs29.a M3 4⟩) (fun hHeld => ?_)
    clear hKK KK
    refine tk 5 (h := ?_)
    try simp only [nm]
    refine rd1 6 fun KK hKK => ?_
    have a31N := F5 hs29 M1
    go_simp
    clear a31N
    have hs32 := (hs29.swap.setRow 4 (.slice (some ⟨wq28.heap.size, 0, none⟩) 2 2)); try simp only [sz] at hs32
    clear hs29
    revert hs32
    generalize World.setCell _ _ _ = wq33
    intro hs32
    clear hHeld
    refine hKK.out _ _ (⟨hs32.a M4 0, hs32.a M4 1, hs32.a M4 2, hs32.a M4 3, hs32.a M4 4, hs32.a M3 0, hs32.a M3 1, hs32.a M3 2, hs32.a M3 3, hs32.a M3 4⟩) (fun hHeld => ?_)
    clear hKK KK
    try simp only [nm]
    refine wpAnyG_done (by kernel_rfl) ?_ _
    go_wp2_with fail
    go_meet
    exact ⟨_, 26, _, [(.mk 16 ⟨#[]⟩ 0 (cur E s).at_ [], .agg #[.int .i64 16, .string ⟨#[]⟩, .int .i64 0, .int .i64 (cur E s).at_, .slice none 0 0]), (.mk k19 t19 n19 a19 ks19, .agg #[.int .i64 k19, .string t19, .int .i64 n19, .int .i64 a19, .slice A19 ks19.length cap19])], _, by decide, by simp, rfl, (hs32.swap3.retire.swap3.retire.swap3.retire.swap4.swap4.swap3.swap4.mono_ts (memC M1 (memC M0 (mem0 _)))), HSP24.out⟩
 case rest =>
  obtain ⟨s1, kk, lb, xs, cs, hkk, hxl, HTC, HD0, HSD⟩ := hcut
  rcases hkk with rfl | rfl
  ·
   have a8 := J3 (F5 HD0 M1) (F5 HD0 M2) (F1 HD0 M3)
   have hz0 := HD0.out.push #[.func (.func 37) #[.pointer (some ⟨M.bp, 0, none⟩)] #[]] 76
   have HZ0 := Lib.hid hz0
   clear hz0
   have HS10 := Lib.hid (HZ0.out); try simp only [sz] at HS10
   have a11 := J4 (F1 HS10 M0) (F5 HS10 M2) (F5 HS10 M3) (F1 HS10 M4)
   go_wp2_with fail
   have hsg := (HS10.swap5.swap5.swap3.swap5.swap5).growN HTC.out (fun x hx => hx) rfl (by omega) ok_lit ok_lit ha0 hl0
   have HSG := Lib.hid hsg
   clear hsg a8 a11
   have hspo := (openR_congr (E := E) (m2 := fun a s => casesL E (casedR E K (K.expr)) K.fuel a (endsS E s)) (fun s => rfl) s1).symm.trans HSD.out
   have HSO := Lib.hid hspo
   clear hspo
   go_at_call 181
   refine CloPost.use (bind_okR HSO.out) HNE.out (fun h0 => open_rd hE (keepsG E M W [(wc.heap.size, #[.func (.func 37) #[.pointer (some ⟨M.bp, 0, none⟩)] #[]], 76), ((W.heap.size + 1), #[.int .i64 0, .string ⟨#[]⟩, .int .i64 0, .int .i64 0, .slice none 0 0], 25), (W.heap.size, #[.pointer (some ⟨M.bp, 0, none⟩)], 75)] (w2.heap.size + 1)) (choice2_clo hE hK (part_expr hK).l M2 M0 hss_expr) _ _ [123] [125] rfl rfl _ s1 _ HSG.rd ⟨_, rfl, rfl, HSG.bx.sub (fun x hx => by simp at hx), HSG.tb⟩ (by simp [Nd.kids]; omega) h0) (fun i W' hi hf => ⟨rfl, bad_end hi (HSG.fp.trans' hf)⟩) ?_
   intro x1 s3 wz hk1 hr1 hi1 hf1 hc1
   obtain ⟨g0, hg1, hg2, hg3, hg4⟩ := hi1
   obtain ⟨nb', k, sx, n, a, v, xs3⟩ := g0
   obtain rfl : nb' = (w2.heap.size + 1) := hg1
   have hs : St E M W _ _ [] s3 wz := ⟨hr1, hg3, hg4⟩
   obtain ⟨A, cap, hv, _, _⟩ := row_form hs.gown
   have hv' : v = .slice A xs3.length cap := hv
   subst hv'
   obtain ⟨g0, g1, g2, g3, g4, gf⟩ := hs.gcells
   obtain ⟨qc00, qc01, qc02, qc03, qc04, yc00, yc01, yc02, yc03, yc04⟩ := hs.bx.c5 M1
   have HS2 := Lib.hid hs
   clear hs hr1 hg3
   go_wp2_with fail
   have hs := (HS2.swap.set5 (.int .i64 k) (.string sx) (.int .i64 n) (.int .i64 a) (.slice A xs3.length cap)).grown
   refine St.fin (slot := 6) rfl hs rfl (hs.bx.tr _ M0) ?_
   exact (congrArg (fun t => Rr.ok t s3) hg2).trans hk1
  ·
   have a8 := J3 (F5 HD0 M1) (F5 HD0 M2) (F1 HD0 M3)
   have hzi := HD0.out.push #[.func (.func 37) #[.pointer (some ⟨M.bp, 0, none⟩)] #[]] 76
   obtain ⟨q10_PI0, y10_PI0⟩ := hzi.bx.c1 M0
   have a10 := J3 (F5 hzi M2) (F5 hzi M3) (F1 hzi M4)
   clear hzi
   have hz0 := HD0.out.push #[.func (.func 228) #[] #[.pointer (some ⟨W.heap.size, 0, none⟩)]] 76
   have HZ0 := Lib.hid hz0
   clear hz0
   have HS11 := Lib.hid (HZ0.out); try simp only [sz] at HS11
   have a12 := J4 (F1 HS11 M0) (F5 HS11 M2) (F5 HS11 M3) (F1 HS11 M4)
   go_wp2_with fail
   have hsg := (HS11.swap5.swap5.swap3.swap5.swap5).growN HTC.out (fun x hx => hx) rfl (by omega) ok_lit ok_lit ha0 hl0
   have HSG := Lib.hid hsg
   clear hsg a8 q10_PI0 y10_PI0 a10 a12
   have hspo := (openR_congr (E := E) (m2 := fun a s => casesL E (casedR E K (typ1R E [[109, 97, 112], [102, 117, 110, 99], [97, 110, 121], [110, 105, 108]])) K.fuel a (endsS E s)) (fun s => rfl) s1).symm.trans HSD.out
   have HSO := Lib.hid hspo
   clear hspo
   go_at_call 181
   refine CloPost.use (bind_okR HSO.out) HNE.out (fun h0 => open_rd hE (keepsG E M W [(wc.heap.size, #[.func (.func 228) #[] #[.pointer (some ⟨W.heap.size, 0, none⟩)]], 76), ((W.heap.size + 1), #[.int .i64 0, .string ⟨#[]⟩, .int .i64 0, .int .i64 0, .slice none 0 0], 25), (W.heap.size, #[.pointer (some ⟨M.bp, 0, none⟩)], 75)] (w2.heap.size + 1)) (choice2_clo hE hK (part_types hE).r M2 M0 (hss_types M2)) _ _ [123] [125] rfl rfl _ s1 _ HSG.rd ⟨_, rfl, rfl, HSG.bx.sub (fun x hx => by simp at hx), HSG.tb⟩ (by simp [Nd.kids]; omega) h0) (fun i W' hi hf => ⟨rfl, bad_end hi (HSG.fp.trans' hf)⟩) ?_
   intro x1 s3 wz hk1 hr1 hi1 hf1 hc1
   obtain ⟨g0, hg1, hg2, hg3, hg4⟩ := hi1
   obtain ⟨nb', k, sx, n, a, v, xs3⟩ := g0
   obtain rfl : nb' = (w2.heap.size + 1) := hg1
   have hs : St E M W _ _ [] s3 wz := ⟨hr1, hg3, hg4⟩
   obtain ⟨A, cap, hv, _, _⟩ := row_form hs.gown
   have hv' : v = .slice A xs3.length cap := hv
   subst hv'
   obtain ⟨g0, g1, g2, g3, g4, gf⟩ := hs.gcells
   obtain ⟨qc00, qc01, qc02, qc03, qc04, yc00, yc01, yc02, yc03, yc04⟩ := hs.bx.c5 M1
   have HS2 := Lib.hid hs
   clear hs hr1 hg3
   go_wp2_with fail
   have hs := (HS2.swap.set5 (.int .i64 k) (.string sx) (.int .i64 n) (.int .i64 a) (.slice A xs3.length cap)).grown
   refine St.fin (slot := 6) rfl hs rfl (hs.bx.tr _ M0) ?_
   exact (congrArg (fun t => Rr.ok t s3) hg2).trans hk1

end
end Go.Proofs.YtokhfhibdeneeaaGreatDoor
