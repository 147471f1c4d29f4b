/- make; the closures of a map's literal. What a method leaves that takes a tree in. -/
import Derived.Deep.Cut
import Derived.Deep.DeepCutAuto
import Derived.Test.YtokhfhibdeneeaaGreatDoorPaL
import Derived.Test.YtokhfhibdeneeaaGreatDoorMLiesP
namespace Go.Proofs.YtokhfhibdeneeaaGreatDoor
open Go.RowKit
section
variable {E : Env} {M : Rm} {w0 W w1 W' : World} {rows : List Rw} {gs : Option Gv} {ts : List (Nd × Value)} {st s s' : Rs} {K : Kn} {g : Gv}
theorem LiesP.congrV {W : World} {P : Nat → Prop} {t : Nd} {a b c d v v' : Value} (h : v = v') (hl : LiesP W P t (.agg #[a, b, c, d, v'])) : LiesP W P t (.agg #[a, b, c, d, v]) := by rw [h]; exact hl
/-- The growing variable is a plain one again. -/
theorem St.ungrow (h : St E M w0 rows (some g) ts st W) : St E M w0 ((g.nb, #[.int .i64 g.k, .string g.s, .int .i64 g.n, .int .i64 g.a, g.v], 25) :: rows) none ((g.nd, .agg #[.int .i64 g.k, .string g.s, .int .i64 g.n, .int .i64 g.a, g.v]) :: ts) st W := by
 obtain ⟨h1, h2, h3, h4⟩ := h.bx.gw g rfl
 have hlt := h4.lt
 have hm : ∀ b, Mine w0 W rows (some g) b → Mine w0 W ((g.nb, #[.int .i64 g.k, .string g.s, .int .i64 g.n, .int .i64 g.a, g.v], 25) :: rows) none b := fun b hb => ⟨hb.1, hb.2.1, fun r hr => by
  rcases List.mem_cons.1 hr with rfl | hr
  · exact (hb.2.2.2 g rfl).1
  · exact hb.2.2.1 r hr, fun g hg => by cases hg⟩
 refine ⟨h.rd, ⟨h.bx.fp, h.bx.bp, fun r hr => ?_, List.pairwise_cons.2 ⟨fun r hr e => (h2 r hr).1 e.symm, h.bx.nd⟩, (fun g hg => by cases hg), fun x hx => ?_⟩, h.tb⟩
 · rcases List.mem_cons.1 hr with rfl | hr
   · exact ⟨h1, h4.box⟩
   · exact h.bx.rw r hr
 rcases List.mem_cons.1 hx with rfl | hx
 · obtain ⟨A, cap, hv, hc1, hc2⟩ := row_form h4.own
   have hok := h4.ok
   refine Go.Proofs.YtokhfhibdeneeaaGreatDoor.LiesP.congrV hv ?_
   rcases Nat.eq_zero_or_pos g.xs.length with h0 | h0
   · have hx0 : g.xs = [] := List.length_eq_zero_iff.1 h0
     show LiesP W _ (.mk g.k g.s g.n g.a (g.xs.map (·.1))) _
     rw [hx0]
     exact LiesP.leaf hok.1 hok.2.1 hok.2.2.1 hok.2.2.2 hc2
   · have hown := h4.own
     rw [hv] at hown
     obtain ⟨b, hA, hb1, hb2⟩ := row_some hown h0
     subst hA
     have hcs := hown.cells (g := b) rfl
     obtain ⟨cs, T, fz, hcell⟩ : ∃ cs T fz, W.heap[b]? = some (.cells cs T fz) := by
      rcases hown.2 with ⟨e, _⟩ | ⟨g', cap', cur, e, _, hg', _⟩
      · cases e
      · simp only [Value.slice.injEq, Option.some.injEq, Addr.mk.injEq, and_true, true_and] at e
        obtain ⟨rfl, rfl⟩ := e
        exact ⟨_, _, _, hg'⟩
     refine LiesP.node hcell g.xs (fun j u hj => ?_) (fun x hx => (h4.tr x hx).keep (fun _ _ => rfl) hm) ⟨hb1, hb2, fun r hr => ?_, fun g hg => by cases hg⟩ hok.1 hok.2.1 hok.2.2.1 hok.2.2.2 rfl hc1 hc2
     · have := hcs j u hj
       rw [show ((⟨b, 0, none⟩ : Addr).add j) = ⟨b, j, none⟩ by simp [Addr.add]; omega, cell_of_row W b j _ _ _ hcell] at this
       exact this
     · rcases List.mem_cons.1 hr with rfl | hr
       · intro e
         have e' : g.nb = b := e
         exact h3 (by rw [hv, e']; rfl)
       · exact fun e => (h2 r hr).2 (by rw [hv, e]; rfl)
 · exact (h.bx.tr x hx).keep (fun _ _ => rfl) hm

set_option maxRecDepth 100000 in
set_option maxHeartbeats 2000000 in
theorem make1_clo (hE : EnvOk E M) (hK : KOK E M K) {rb nb : Nat} (hrb : (rb, #[.pointer (some ⟨M.bp, 0, none⟩)], 75) ∈ rows) :
 Clo E M w0.heap.size (InvG E M w0 rows nb) (fun a => a.kids.length) 10 K.fuel 225 #[.pointer (some ⟨rb, 0, none⟩), .pointer (some ⟨nb, 0, none⟩)] (rowR E [125] (pairM E K) K.fuel) := by
 refine ⟨fun W => rfl, fun a s W hr hi hc hne => ?_⟩
 have hc' : a.kids.length ≤ 10 := hc
 have hf : K.fuel ≤ 900000 := hK.fuel
 have hcall := row_rd hE (keepsG E M w0 rows nb) (make2_clo (C := 999999) hE hK (by decide) hrb) ⟨#[125]⟩ [125] rfl K.fuel a s W hr hi (show a.kids.length + K.fuel ≤ 999999 + 1 by omega) hne
 obtain ⟨g, _, _, hbx, _⟩ := hi
 have q0 : W.cell? ⟨rb, 0, none⟩ = some (.pointer (some ⟨M.bp, 0, none⟩)) := hbx.at_ hrb 0 rfl
 have hmf : ∀ (fn : Fn) (first cap : Array Value) (w : World), (Instr.makeFunc fn first cap).run Tryz.prog w = .ok (.func fn first cap) w := fun _ _ _ _ => rfl
 obtain ⟨R, HR⟩ : ∃ R, Hid (rowR E [125] (pairM E K) K.fuel a s = R) := ⟨_, rfl⟩
 rw [HR.out] at hcall hne ⊢
 have HC := Lib.hid hcall
 have HNE := Lib.hid hne
 clear hcall hne hbx hc hc' hf HR
 go_enter Tryz.func225, Tryz.ntmps225
 go_wp2_with (go_at_call 189; refine CloPost.use (bind_ok R) HNE.out (fun _ => HC.out) (fun i W' hi hf => ⟨rfl, clo_bad hi hf⟩) ?_; intro x1 s1 w1 hk1 hr1 hi1 hf1 hc1)
 go_end0
 rw [← hk1]
 exact ⟨rfl, hr1, hi1, hf1, hc1⟩

set_option maxRecDepth 100000 in
set_option maxHeartbeats 4000000 in
theorem make_rd (hE : EnvOk E M) (hK : KOK E M K) (h : RdAt E M s W) {t0 : ByteArray} {a0 : Int} (ha0 : okI a0) (hs0 : t0.size ≤ 140737488351232) (hne : makeR E K (.mk 14 t0 0 a0 []) s ≠ .out) :
 Calls Tryz.prog 180 #[.pointer (some ⟨M.bp, 0, none⟩), .agg #[.int .i64 14, .string t0, .int .i64 0, .int .i64 a0, .slice none 0 0]] W (Post E M VNd W (makeR E K (.mk 14 t0 0 a0 []) s)) := by
 obtain ⟨R, HR⟩ : ∃ R, Hid (makeR E K (.mk 14 t0 0 a0 []) s = R) := ⟨_, rfl⟩
 have hneR : R ≠ .out := by rw [← HR.out]; exact hne
 clear hne
 rw [HR.out]
 have HNE := Lib.hid hneR
 have HSP0 : Hid ((openR E [123] [125] (rowR E [125] (pairM E K) K.fuel) (.mk 41 t0 0 a0 []) s : Rr Nd) = R) := HR.out
 have HS1 := Lib.hid ((((St.init h).push #[.pointer (some ⟨M.bp, 0, none⟩)] 75).pn 41 t0 0 a0 (.slice none 0 0)).pz)
 try simp only [World.size_alloc] at HS1
 have a1 := J3 (F5 HS1 M0) (F5 HS1 M1) (F1 HS1 M2)
 have hmf : ∀ (fn : Fn) (first cap : Array Value) (w : World), (Instr.makeFunc fn first cap).run Tryz.prog w = .ok (.func fn first cap) w := fun _ _ _ _ => rfl
 clear hneR HR h
 go_enter Tryz.func180, Tryz.ntmps180
 go_wp2_with fail
 have hsg := HS1.swap.grow0 (nb := (W.heap.size + 1)) ok_lit ok_lit ha0 hs0
 have HSG := Lib.hid hsg
 clear hsg
 go_at_call 181
 refine CloPost.use (bind_okR HSP0.out) HNE.out (fun h0 => open_rd hE (keepsG E M W [((W.heap.size + 1 + 1), #[.int .i64 0, .string ⟨#[]⟩, .int .i64 0, .int .i64 0, .slice none 0 0], 25), (W.heap.size, #[.pointer (some ⟨M.bp, 0, none⟩)], 75)] (W.heap.size + 1)) (make1_clo hE hK M1) _ _ [123] [125] rfl rfl _ s _ HSG.rd ⟨_, rfl, rfl, HSG.bx, HSG.tb⟩ (Nat.zero_le _) h0) (fun i W' hi hf => ⟨rfl, bad_end hi (HSG.fp.trans' hf)⟩) ?_
 clear a1
 intro x1 s1 w2 hk1 hr1 hi1 hf1 hc1
 obtain ⟨g, hg1, hg2, hg3, hg4⟩ := hi1
 obtain ⟨nb', k, sx, n, a, v, xs⟩ := g
 obtain rfl : nb' = (W.heap.size + 1) := hg1
 have hs : St E M W _ _ [] s1 w2 := ⟨hr1, hg3, hg4⟩
 obtain ⟨A, cap, hv, _, _⟩ := row_form hs.gown
 have hv' : v = .slice A xs.length cap := hv
 subst hv'
 obtain ⟨g0, g1, g2, g3, g4, gf⟩ := hs.gcells
 obtain ⟨qc00, qc01, qc02, qc03, qc04, yc00, yc01, yc02, yc03, yc04⟩ := hs.bx.c5 M0
 have HS2 := Lib.hid hs
 clear hs hr1 hg3
 go_wp2_with fail
 have hs := (HS2.set5 (.int .i64 k) (.string sx) (.int .i64 n) (.int .i64 a) (.slice A xs.length cap)).grown
 refine St.fin (slot := 4) rfl hs rfl (hs.bx.tr _ M0) ?_
 exact (congrArg (fun t => Rr.ok t s1) hg2).trans hk1

set_option maxRecDepth 100000 in
set_option maxHeartbeats 4000000 in
theorem map2_clo (hE : EnvOk E M) (hK : KOK E M K) {rb nb C : Nat} (hC : C ≤ 1000000) (hrb : (rb, #[.pointer (some ⟨M.bp, 0, none⟩)], 75) ∈ rows) :
 Clo E M w0.heap.size (InvG E M w0 rows nb) (fun a => a.kids.length) C 1 271 #[.pointer (some ⟨rb, 0, none⟩), .pointer (some ⟨nb, 0, none⟩)] (mapM E K) := by
 refine ⟨fun W => rfl, fun a s W hr hi hc hne => ?_⟩
 obtain ⟨g, hgn, rfl, hbx, htb⟩ := hi
 obtain ⟨nb', k, sx, n, a, v, xs⟩ := g
 obtain rfl : nb' = nb := hgn
 obtain ⟨R, HR⟩ : ∃ R, Hid ((mapM E K) (Gv.nd ⟨nb', k, sx, n, a, v, xs⟩) s = R) := ⟨_, rfl⟩
 have hneR : R ≠ .out := by rw [← HR.out]; exact hne
 rw [HR.out]
 have HNE := Lib.hid hneR
 have HSP0 : Hid (((K.expr s).bind fun x s' => (wantR E [58] s').bind fun _ s' => (K.expr s').bind fun y s' => .ok (Nd.push (Gv.nd ⟨nb', k, sx, n, a, v, xs⟩) (.mk 40 (bs []) 0 (E.tok s.i).at_ [x, y])) s' : Rr Nd) = R) := HR.out
 have hst : St E M w0 rows (some ⟨nb', k, sx, n, a, v, xs⟩) [] s W := ⟨hr, hbx, htb⟩
 obtain ⟨A, cap, hv, hc1, hc2⟩ := row_form hst.gown
 have hv' : v = .slice A xs.length cap := hv
 subst hv'
 have hxc : xs.length ≤ C := by simpa [Gv.nd, Nd.kids] using hc
 have hxl : xs.length ≤ 1000000 := Nat.le_trans hxc hC
 have hc1' : xs.length ≤ cap := hc1
 have hbd : ((xs.length : Int) < (xs.length : Int) + 1) = True := by simp; omega
 have HB0 := Lib.hid hbx.fp
 obtain ⟨i0, hi0, hz0, hz1, hz2⟩ := info_parts infoNd
 clear hneR hne HR hr hbx hv hc htb hc1 hxc
 have hfi0 := fieldTok0
 have hfi1 := fieldTok1
 have hfi2 := fieldTok2
 have hfn0 := fieldNd0
 have hfn1 := fieldNd1
 have a1B := hst.bx.c1 hrb
 have gg1 := hst.gcells
 have HS0 := Lib.hid hst
 clear hst
 go_enter Tryz.func271, Tryz.ntmps271
 have HO := HS0
 clear a1B gg1
 have hI := St.init HS0.rd
 have HI0 := Lib.hid hI
 clear hI
 go_upto_region 0 with fail
 go_cut [2] (fun s2 wx => ∃ (b lb : Nat) (s1 : Rs) (k1 : Int) (t1 : ByteArray) (n1 a1 : Int) (ks1 : List Nd) (A1 : Option Addr) (cap1 : Nat), s2 = .pointer (some ⟨b, 0, none⟩) ∧ Hid (St E M W [(lb, #[.int .i64 k1, .string t1, .int .i64 n1, .int .i64 a1, .slice A1 ks1.length cap1], 25), (b, #[.int .i64 40, .string ⟨#[]⟩, .int .i64 0, .int .i64 (E.tok s.i).at_, .slice (some ⟨lb, 0, none⟩) 1 1], 25)] none [(.mk k1 t1 n1 a1 ks1, .agg #[.int .i64 k1, .string t1, .int .i64 n1, .int .i64 a1, .slice A1 ks1.length cap1])] s1 wx) ∧ Hid ((wantR E [58] s1).bind (fun _ s' => (K.expr s').bind fun y s' => .ok (Nd.push (Gv.nd ⟨nb', k, sx, n, a, .slice A xs.length cap, xs⟩) (.mk 40 (bs []) 0 (E.tok s.i).at_ [.mk k1 t1 n1 a1 ks1, y])) s') = R))
 case first =>
  go_wp2_with fail
  have hs2 := HI0.out.drew
  refine wp_region_G [] (fun W => W.cell? ⟨rb, 0, none⟩ = some (.pointer (some ⟨M.bp, 0, none⟩))) (by rfl) ?_ (fun hHeld => ?_)
  · exact (HO.bx.go hs2.fp).at_ hrb 0 rfl
  revert hs2 hHeld
  generalize World.drew _ = wd2
  intro hs2 hHeld
  refine tk 0 (h := tk 3 (h := ?_))
  try simp only [nm]
  refine wpAnyG_ready (rs := [1, 7]) (by kernel_rfl) (by simp) ?_
  refine AllReadyG.cons rfl (fun KK hKK => ?_) (AllReadyG.cons rfl (fun KK hKK => ?_) AllReadyG.nil)
  ·
   go_simp
   go_at_call 42
   refine (at0_rd hE hs2.rd).mono ?_
   rintro e w3 ⟨rfl, hb3⟩
   have hs4 := (hs2.below hb3); try simp only [sz] at hs4
   refine hKK.out _ _ ((HO.bx.go hs4.fp).at_ hrb 0 rfl) (fun hHeld => ?_)
   clear hKK KK
   refine tk 2 (h := ?_)
   try simp only [nm]
   refine wpAnyG_ready (rs := [4, 7]) (by kernel_rfl) (by simp) ?_
   refine AllReadyG.cons rfl (fun KK hKK => ?_) (AllReadyG.cons rfl (fun KK hKK => ?_) AllReadyG.nil)
   ·
    go_simp
    go_at_call 37
    refine Post.nd HSP0 HNE (fun h0 => hK.expr _ _ hs4.rd h0) (fun i W' hi hf => ⟨rfl, clo_bad hi (Fp.foot (hs4.fp.trans hf) HO.lo)⟩) ?_
    intro k5 t5 n5 a5 ks5 s5 A5 cap5 w5 HSP5 hv5 hr5 hf5
    have hs6 := (hs4.read hr5 hf5 hv5); try simp only [sz] at hs6
    refine hKK.out _ _ ((HO.bx.go hs6.fp).at_ hrb 0 rfl) (fun hHeld => ?_)
    clear hKK KK
    try simp only [nm]
    refine wpAnyG_ready (rs := [5, 7]) (by kernel_rfl) (by simp) ?_
    refine AllReadyG.cons rfl (fun KK hKK => ?_) (AllReadyG.cons rfl (fun KK hKK => ?_) AllReadyG.nil)
    ·
     go_simp
     have hs7 := (hs6.pn k5 t5 n5 a5 (.slice A5 ks5.length cap5)); try simp only [sz] at hs7
     revert hs7
     generalize World.alloc _ _ = wq8
     intro hs7
     refine hKK.out _ _ ((HO.bx.go hs7.fp).at_ hrb 0 rfl) (fun hHeld => ?_)
     clear hKK KK
     refine tk 6 (h := ?_)
     try simp only [nm]
     refine rd1 7 fun KK hKK => ?_
     go_simp
     have hs9 := (hs7.pz); try simp only [sz] at hs9
     revert hs9
     generalize World.alloc _ _ = wq10
     intro hs9
     refine hKK.out _ _ ((HO.bx.go hs9.fp).at_ hrb 0 rfl) (fun hHeld => ?_)
     clear hKK KK
     try simp only [nm]
     refine rd1 8 fun KK hKK => ?_
     have a11P := F5 hs9 M0
     go_simp
     clear a11P
     have hs12 := (hs9.set5 (.int .i64 40) (.string ⟨#[]⟩) (.int .i64 0) (.int .i64 (E.tok s.i).at_) (.slice (some ⟨w5.heap.size, 0, none⟩) 1 1)); try simp only [sz] at hs12
     refine hKK.out _ _ ((HO.bx.go hs12.fp).at_ hrb 0 rfl) (fun hHeld => ?_)
     clear hKK KK
     try simp only [nm]
     refine wpAnyG_done (by kernel_rfl) ?_ _
     go_wp2_with fail
     go_meet
     exact ⟨_, _, _, _, _, _, _, _, _, _, rfl, hs12.swap, HSP5.out⟩
    ·
     go_simp
     have hs7 := (hs6.pz); try simp only [sz] at hs7
     revert hs7
     generalize World.alloc _ _ = wq8
     intro hs7
     refine hKK.out _ _ ((HO.bx.go hs7.fp).at_ hrb 0 rfl) (fun hHeld => ?_)
     clear hKK KK
     try simp only [nm]
     refine rd1 5 fun KK hKK => ?_
     go_simp
     have hs9 := (hs7.pn k5 t5 n5 a5 (.slice A5 ks5.length cap5)); try simp only [sz] at hs9
     revert hs9
     generalize World.alloc _ _ = wq10
     intro hs9
     refine hKK.out _ _ ((HO.bx.go hs9.fp).at_ hrb 0 rfl) (fun hHeld => ?_)
     clear hKK KK
     refine tk 6 (h := ?_)
     try simp only [nm]
     refine rd1 8 fun KK hKK => ?_
     have a11P := F5 hs9 M1
     go_simp
     clear a11P
     have hs12 := (hs9.swap.set5 (.int .i64 40) (.string ⟨#[]⟩) (.int .i64 0) (.int .i64 (E.tok s.i).at_) (.slice (some ⟨wq8.heap.size, 0, none⟩) 1 1)); try simp only [sz] at hs12
     refine hKK.out _ _ ((HO.bx.go hs12.fp).at_ hrb 0 rfl) (fun hHeld => ?_)
     clear hKK KK
     try simp only [nm]
     refine wpAnyG_done (by kernel_rfl) ?_ _
     go_wp2_with fail
     go_meet
     exact ⟨_, _, _, _, _, _, _, _, _, _, rfl, hs12.swap, HSP5.out⟩
   ·
    go_simp
    have hs5 := (hs4.pz); try simp only [sz] at hs5
    revert hs5
    generalize World.alloc _ _ = wq6
    intro hs5
    refine hKK.out _ _ ((HO.bx.go hs5.fp).at_ hrb 0 rfl) (fun hHeld => ?_)
    clear hKK KK
    try simp only [nm]
    refine rd1 4 fun KK hKK => ?_
    go_simp
    go_at_call 37
    refine Post.nd HSP0 HNE (fun h0 => hK.expr _ _ hs5.rd h0) (fun i W' hi hf => ⟨rfl, clo_bad hi (Fp.foot (hs5.fp.trans hf) HO.lo)⟩) ?_
    intro k7 t7 n7 a7 ks7 s7 A7 cap7 w7 HSP7 hv7 hr7 hf7
    have hs8 := (hs5.read hr7 hf7 hv7); try simp only [sz] at hs8
    refine hKK.out _ _ ((HO.bx.go hs8.fp).at_ hrb 0 rfl) (fun hHeld => ?_)
    clear hKK KK
    try simp only [nm]
    refine rd1 5 fun KK hKK => ?_
    go_simp
    have hs9 := (hs8.pn k7 t7 n7 a7 (.slice A7 ks7.length cap7)); try simp only [sz] at hs9
    revert hs9
    generalize World.alloc _ _ = wq10
    intro hs9
    refine hKK.out _ _ ((HO.bx.go hs9.fp).at_ hrb 0 rfl) (fun hHeld => ?_)
    clear hKK KK
    refine tk 6 (h := ?_)
    try simp only [nm]
    refine rd1 8 fun KK hKK => ?_
    have a11P := F5 hs9 M1
    go_simp
    clear a11P
    have hs12 := (hs9.swap.set5 (.int .i64 40) (.string ⟨#[]⟩) (.int .i64 0) (.int .i64 (E.tok s.i).at_) (.slice (some ⟨w7.heap.size, 0, none⟩) 1 1)); try simp only [sz] at hs12
    refine hKK.out _ _ ((HO.bx.go hs12.fp).at_ hrb 0 rfl) (fun hHeld => ?_)
    clear hKK KK
    try simp only [nm]
    refine wpAnyG_done (by kernel_rfl) ?_ _
    go_wp2_with fail
    go_meet
    exact ⟨_, _, _, _, _, _, _, _, _, _, rfl, hs12.swap, HSP7.out⟩
  ·
   go_simp
   have hs3 := (hs2.pz); try simp only [sz] at hs3
   revert hs3
   generalize World.alloc _ _ = wq4
   intro hs3
   refine hKK.out _ _ ((HO.bx.go hs3.fp).at_ hrb 0 rfl) (fun hHeld => ?_)
   clear hKK KK
   try simp only [nm]
   refine rd1 1 fun KK hKK => ?_
   go_simp
   go_at_call 42
   refine (at0_rd hE hs3.rd).mono ?_
   rintro e w5 ⟨rfl, hb5⟩
   have hs6 := (hs3.below hb5); try simp only [sz] at hs6
   refine hKK.out _ _ ((HO.bx.go hs6.fp).at_ hrb 0 rfl) (fun hHeld => ?_)
   clear hKK KK
   refine tk 2 (h := ?_)
   try simp only [nm]
   refine rd1 4 fun KK hKK => ?_
   go_simp
   go_at_call 37
   refine Post.nd HSP0 HNE (fun h0 => hK.expr _ _ hs6.rd h0) (fun i W' hi hf => ⟨rfl, clo_bad hi (Fp.foot (hs6.fp.trans hf) HO.lo)⟩) ?_
   intro k7 t7 n7 a7 ks7 s7 A7 cap7 w7 HSP7 hv7 hr7 hf7
   have hs8 := (hs6.read hr7 hf7 hv7); try simp only [sz] at hs8
   refine hKK.out _ _ ((HO.bx.go hs8.fp).at_ hrb 0 rfl) (fun hHeld => ?_)
   clear hKK KK
   try simp only [nm]
   refine rd1 5 fun KK hKK => ?_
   go_simp
   have hs9 := (hs8.pn k7 t7 n7 a7 (.slice A7 ks7.length cap7)); try simp only [sz] at hs9
   revert hs9
   generalize World.alloc _ _ = wq10
   intro hs9
   refine hKK.out _ _ ((HO.bx.go hs9.fp).at_ hrb 0 rfl) (fun hHeld => ?_)
   clear hKK KK
   refine tk 6 (h := ?_)
   try simp only [nm]
   refine rd1 8 fun KK hKK => ?_
   have a11P := F5 hs9 M1
   go_simp
   clear a11P
   have hs12 := (hs9.swap.set5 (.int .i64 40) (.string ⟨#[]⟩) (.int .i64 0) (.int .i64 (E.tok s.i).at_) (.slice (some ⟨w7.heap.size, 0, none⟩) 1 1)); try simp only [sz] at hs12
   refine hKK.out _ _ ((HO.bx.go hs12.fp).at_ hrb 0 rfl) (fun hHeld => ?_)
   clear hKK KK
   try simp only [nm]
   refine wpAnyG_done (by kernel_rfl) ?_ _
   go_wp2_with fail
   go_meet
   exact ⟨_, _, _, _, _, _, _, _, _, _, rfl, hs12.swap, HSP7.out⟩
 case rest =>
  obtain ⟨b, lb, s1, k1, t1, n1, a1, ks1, A1, cap1, rfl, HC0, HSC⟩ := hcut
  have a2 := J2 (F5 HC0 M0) (F5 HC0 M1)
  have a2B := (HO.bx.go HC0.out.fp).c1 hrb
  go_wp2_with fail
  go_at_call 90
  refine Post.use HSC.out HNE.out (fun _ => want_any hE HC0.out.rd ⟨#[58]⟩ [58] rfl) (fun i W' hi hf => ⟨rfl, clo_bad hi (Fp.foot (HC0.out.fp.trans hf) HO.lo)⟩) ?_
  intro x3 s3 v3 w3 hsp3 hv3 hr3 hf3
  obtain rfl : v3 = _ := hv3
  clear a2 a2B
  have HS4 := Lib.hid (HC0.out.go hr3 hf3); try simp only [sz] at HS4
  have a5 := J2 (F5 HS4 M0) (F5 HS4 M1)
  have a5B := (HO.bx.go HS4.fp).c1 hrb
  have HSP3 := Lib.hid hsp3
  clear hsp3 hr3 hf3 a5 a5B
  have HS6 := Lib.hid (HS4.growN (xs := [(.mk k1 t1 n1 a1 ks1, .agg #[.int .i64 k1, .string t1, .int .i64 n1, .int .i64 a1, .slice A1 ks1.length cap1])]) rfl (memC M0 (mem0 _)) rfl (by decide) ok_lit ok_lit (hE.at_ _) (by decide)); try simp only [sz] at HS6
  have a7B := (HO.bx.go HS6.fp).c1 hrb
  have gg7 := HS6.gcells
  go_wp2_with fail
  clear a7B gg7
  have hs8 := HS6.drew
  refine wp_region_G [7] (fun W => W.cell? ⟨b, 4, none⟩ = some (.slice (some ⟨lb, 0, none⟩) 1 1) ∧ W.cell? ⟨rb, 0, none⟩ = some (.pointer (some ⟨M.bp, 0, none⟩))) (by rfl) ?_ (fun hHeld => ?_)
  · exact ⟨hs8.gcells.2.2.2.2.1, (HO.bx.go hs8.fp).at_ hrb 0 rfl⟩
  revert hs8 hHeld
  generalize World.drew _ = wd8
  intro hs8 hHeld
  refine tk 0 (h := tk 1 (h := tk 2 (h := ?_)))
  try simp only [nm]
  refine rd1 3 fun KK hKK => ?_
  go_simp
  go_at_call 37
  refine Post.nd HSP3 HNE (fun h0 => hK.expr _ _ hs8.rd h0) (fun i W' hi hf => ⟨rfl, clo_bad hi (Fp.foot (hs8.fp.trans hf) HO.lo)⟩) ?_
  intro k9 t9 n9 a9 ks9 s9 A9 cap9 w9 HSP9 hv9 hr9 hf9
  have hs10 := (hs8.read hr9 hf9 hv9); try simp only [sz] at hs10
  refine hKK.out _ _ (⟨hs10.gcells.2.2.2.2.1, (HO.bx.go hs10.fp).at_ hrb 0 rfl⟩) (fun hHeld => ?_)
  clear hKK KK
  try simp only [nm]
  refine rd1 4 fun KK hKK => ?_
  go_simp
  have hs11 := (hs10.pn k9 t9 n9 a9 (.slice A9 ks9.length cap9)); try simp only [sz] at hs11
  revert hs11
  generalize World.alloc _ _ = wq12
  intro hs11
  refine hKK.out _ _ (⟨hs11.gcells.2.2.2.2.1, (HO.bx.go hs11.fp).at_ hrb 0 rfl⟩) (fun hHeld => ?_)
  clear hKK KK
  try simp only [nm]
  refine rd1 5 fun KK hKK => ?_
  refine apl 13 16 hs11 M0 1 (h := ?_)
  intro b13 capb13 w13 ho13 hg13 hb13 hbl13
  obtain ⟨he13, ef13, n413, nf13, hne13, hbox13, hlen13⟩ := hs11.newElem rfl ho13 hg13 hb13
  obtain ⟨e13_0, e13_1, e13_2, e13_3, e13_4⟩ := he13
  have hnx13 : (b = b13) = False := by simpa using fun e => hne13 e.symm
  have hny13 : (b13 = b) = False := by simpa using hne13
  have HSF13 := Lib.hid (And.intro hs11 (And.intro ho13 (And.intro hg13 (And.intro hb13 (And.intro hbox13 hlen13)))))
  clear hs8 hs10 hs11 ho13 hg13 hb13
  refine hKK.out _ _ (⟨n413, (HO.bx.go (HSF13.out.1.appFp HSF13.out.2.2.1)).at_ hrb 0 rfl⟩) (fun hHeld => ?_)
  clear hKK KK
  refine tk 6 (h := ?_)
  try simp only [nm]
  refine rl1 7 fun KK hKK => ?_
  go_simp
  refine hKK.out _ _ ?_
  clear hKK KK
  try simp only [nm]
  refine wpAny_done (by kernel_rfl) ?_ _
  have hA13 := AppTo.whole (lo := W.heap.size) HSF13.out.2.1 HSF13.out.2.2.2.2.1 (fun e => hne13 e.symm)
  go_wp2_with fail
  have hu14 := (HSF13.out.1.appendedN (m := 1) (N := 1) (zs := [.int .i64 k9, .string t9, .int .i64 n9, .int .i64 a9, .slice A9 ks9.length cap9]) rfl rfl HSF13.out.2.1 HSF13.out.2.2.1 HSF13.out.2.2.2.1 (ys := [(.mk k9 t9 n9 a9 ks9, .agg #[.int .i64 k9, .string t9, .int .i64 n9, .int .i64 a9, .slice A9 ks9.length cap9])]) (memC M0 (mem0 _)) hA13 rfl).ungrow.lo; try simp only [sz] at hu14
  have hJ14 : St E M w0 _ (some ⟨nb', k, sx, n, a, .slice A xs.length cap, xs⟩) _ _ _ := HO.join (HSF13.out.1.appendedN (m := 1) (N := 1) (zs := [.int .i64 k9, .string t9, .int .i64 n9, .int .i64 a9, .slice A9 ks9.length cap9]) rfl rfl HSF13.out.2.1 HSF13.out.2.2.1 HSF13.out.2.2.2.1 (ys := [(.mk k9 t9 n9 a9 ks9, .agg #[.int .i64 k9, .string t9, .int .i64 n9, .int .i64 a9, .slice A9 ks9.length cap9])]) (memC M0 (mem0 _)) hA13 rfl).ungrow
  have HJ14 := Lib.hid hJ14
  clear hJ14
  go_wp2_with fail
  have hs15 := HJ14.out.drew
  refine wp_region_G [5] (fun W => W.cell? ⟨nb', 4, none⟩ = some (.slice A xs.length cap) ∧ W.cell? ⟨b, 0, none⟩ = some (.int .i64 40) ∧ W.cell? ⟨b, 1, none⟩ = some (.string ⟨#[]⟩) ∧ W.cell? ⟨b, 2, none⟩ = some (.int .i64 0) ∧ W.cell? ⟨b, 3, none⟩ = some (.int .i64 (E.tok s.i).at_) ∧ W.cell? ⟨b, 4, none⟩ = some (.slice (some ⟨b13, 0, none⟩) 2 capb13)) (by rfl) ?_ (fun hHeld => ?_)
  · exact ⟨hs15.gcells.2.2.2.2.1, hs15.a M0 0, hs15.a M0 1, hs15.a M0 2, hs15.a M0 3, hs15.a M0 4⟩
  have hu15 := hu_drew hs15 (x := W.heap.size) (by (try simp only [sz]); omega)
  revert hs15 hu15 hHeld
  generalize World.drew _ = wd15
  intro hs15 hu15 hHeld
  refine tk 0 (h := tk 1 (h := tk 2 (h := tk 3 (h := ?_))))
  try simp only [nm]
  refine rd1 4 fun KK hKK => ?_
  go_simp
  have hs16 := (hs15.pz); try simp only [sz] at hs16
  have hu17 := hu_push hs16 (x := W.heap.size) (by (try simp only [sz]); omega)
  revert hs16 hu17
  generalize World.alloc _ _ = wq17
  intro hs16 hu17
  refine hKK.out _ _ (⟨hs16.gcells.2.2.2.2.1, hs16.a M1 0, hs16.a M1 1, hs16.a M1 2, hs16.a M1 3, hs16.a M1 4⟩) (fun hHeld => ?_)
  clear hKK KK
  try simp only [nm]
  refine rl1 5 fun KK hKK => ?_
  refine apl 20 23 hs16 M0 xs.length (h := ?_)
  intro b18 capb18 w18 ho18 hg18 hb18 hbl18
  obtain ⟨he18, ef18, n418, nf18, hne18, hbox18, hlen18⟩ := hs16.newElem rfl ho18 hg18 hb18
  obtain ⟨e18_0, e18_1, e18_2, e18_3, e18_4⟩ := he18
  have hnx18 : (nb' = b18) = False := by simpa using fun e => hne18 e.symm
  have hny18 : (b18 = nb') = False := by simpa using hne18
  have HSF18 := Lib.hid (And.intro hs16 (And.intro ho18 (And.intro hg18 (And.intro hb18 (And.intro hbox18 hlen18)))))
  clear hs15 hs16 ho18 hg18 hb18
  refine hKK.out _ _ ?_
  clear hKK KK
  refine tq 6 (h := tq 8 (h := ?_))
  try simp only [nm]
  refine wpAny_ready' (rs := [7, 9]) (by kernel_rfl) (by simp) ?_
  refine allReady_cons rfl (fun KK hKK => ?_) (allReady_cons rfl (fun KK hKK => ?_) allReady_nil)
  ·
   go_simp
   refine hKK.out _ _ ?_
   clear hKK KK
   try simp only [nm]
   refine rp1 9 fun KK hKK => ?_
   go_simp
   refine hKK.out _ _ ?_
   clear hKK KK
   try simp only [nm]
   refine wpAny_done (by kernel_rfl) ?_ _
   go_wp2_with fail
   go_end0
   have hA18 := AppSt.fin (lo := w0.heap.size) (((AppSt.init HSF18.out.2.1 HSF18.out.2.2.2.2.1).elem (fun e => hne18 e.symm) (xs.length * 5) (.int .i64 40) (.string ⟨#[]⟩) (.int .i64 0) (.int .i64 (E.tok s.i).at_) (.slice (some ⟨b13, 0, none⟩) 2 capb13)).box_ (fun e => hne18 e.symm) (.slice (some ⟨b18, 0, none⟩) (xs.length + 1) capb18)) (set5_list _ _ _ _ _ _ _ _ _ _ _ HSF18.out.2.2.2.2.2)
   have hs19 := (HSF18.out.1.appendedN (m := xs.length) (N := 1) (zs := [.int .i64 0, .string ⟨#[]⟩, .int .i64 0, .int .i64 0, .slice none 0 0]) rfl rfl HSF18.out.2.1 HSF18.out.2.2.1 HSF18.out.2.2.2.1 (ys := [(.mk 40 ⟨#[]⟩ 0 (E.tok s.i).at_ [.mk k1 t1 n1 a1 ks1, .mk k9 t9 n9 a9 ks9], .agg #[.int .i64 40, .string ⟨#[]⟩, .int .i64 0, .int .i64 (E.tok s.i).at_, .slice (some ⟨b13, 0, none⟩) 2 capb13])]) (memC M0 (mem0 _)) hA18 rfl).retire.retire.retire
   refine clo_end (HSP9.out).symm hs19 rfl (by simp [Gv.nd, Nd.push, bs]) HB0.out ?_ (by simp [Gv.nd, Nd.push, Nd.kids])
   rw [hA18.size]; have h0 := HSF18.out.2.2.1.size; (try simp only [sz] at h0); omega
  ·
   go_simp
   refine hKK.out _ _ ?_
   clear hKK KK
   try simp only [nm]
   refine rp1 7 fun KK hKK => ?_
   go_simp
   refine hKK.out _ _ ?_
   clear hKK KK
   try simp only [nm]
   refine wpAny_done (by kernel_rfl) ?_ _
   go_wp2_with fail
   go_end0
   have hA18 := AppSt.fin (lo := w0.heap.size) (((AppSt.init HSF18.out.2.1 HSF18.out.2.2.2.2.1).box_ (fun e => hne18 e.symm) (.slice (some ⟨b18, 0, none⟩) (xs.length + 1) capb18)).elem (fun e => hne18 e.symm) (xs.length * 5) (.int .i64 40) (.string ⟨#[]⟩) (.int .i64 0) (.int .i64 (E.tok s.i).at_) (.slice (some ⟨b13, 0, none⟩) 2 capb13)) (set5_list _ _ _ _ _ _ _ _ _ _ _ HSF18.out.2.2.2.2.2)
   have hs19 := (HSF18.out.1.appendedN (m := xs.length) (N := 1) (zs := [.int .i64 0, .string ⟨#[]⟩, .int .i64 0, .int .i64 0, .slice none 0 0]) rfl rfl HSF18.out.2.1 HSF18.out.2.2.1 HSF18.out.2.2.2.1 (ys := [(.mk 40 ⟨#[]⟩ 0 (E.tok s.i).at_ [.mk k1 t1 n1 a1 ks1, .mk k9 t9 n9 a9 ks9], .agg #[.int .i64 40, .string ⟨#[]⟩, .int .i64 0, .int .i64 (E.tok s.i).at_, .slice (some ⟨b13, 0, none⟩) 2 capb13])]) (memC M0 (mem0 _)) hA18 rfl).retire.retire.retire
   refine clo_end (HSP9.out).symm hs19 rfl (by simp [Gv.nd, Nd.push, bs]) HB0.out ?_ (by simp [Gv.nd, Nd.push, Nd.kids])
   rw [hA18.size]; have h0 := HSF18.out.2.2.1.size; (try simp only [sz] at h0); omega

set_option maxRecDepth 100000 in
set_option maxHeartbeats 2000000 in
theorem map1_clo (hE : EnvOk E M) (hK : KOK E M K) {rb nb : Nat} (hrb : (rb, #[.pointer (some ⟨M.bp, 0, none⟩)], 75) ∈ rows) :
 Clo E M w0.heap.size (InvG E M w0 rows nb) (fun a => a.kids.length) 10 K.fuel 270 #[.pointer (some ⟨rb, 0, none⟩), .pointer (some ⟨nb, 0, none⟩)] (rowR E [125] (mapM E K) K.fuel) := by
 refine ⟨fun W => rfl, fun a s W hr hi hc hne => ?_⟩
 have hc' : a.kids.length ≤ 10 := hc
 have hf : K.fuel ≤ 900000 := hK.fuel
 have hcall := row_rd hE (keepsG E M w0 rows nb) (map2_clo (C := 999999) hE hK (by decide) hrb) ⟨#[125]⟩ [125] rfl K.fuel a s W hr hi (show a.kids.length + K.fuel ≤ 999999 + 1 by omega) hne
 obtain ⟨g, _, _, hbx, _⟩ := hi
 have q0 : W.cell? ⟨rb, 0, none⟩ = some (.pointer (some ⟨M.bp, 0, none⟩)) := hbx.at_ hrb 0 rfl
 have hmf : ∀ (fn : Fn) (first cap : Array Value) (w : World), (Instr.makeFunc fn first cap).run Tryz.prog w = .ok (.func fn first cap) w := fun _ _ _ _ => rfl
 obtain ⟨R, HR⟩ : ∃ R, Hid (rowR E [125] (mapM E K) K.fuel a s = R) := ⟨_, rfl⟩
 rw [HR.out] at hcall hne ⊢
 have HC := Lib.hid hcall
 have HNE := Lib.hid hne
 clear hcall hne hbx hc hc' hf HR
 go_enter Tryz.func270, Tryz.ntmps270
 go_wp2_with (go_at_call 189; refine CloPost.use (bind_ok R) HNE.out (fun _ => HC.out) (fun i W' hi hf => ⟨rfl, clo_bad hi hf⟩) ?_; intro x1 s1 w1 hk1 hr1 hi1 hf1 hc1)
 go_end0
 rw [← hk1]
 exact ⟨rfl, hr1, hi1, hf1, hc1⟩

end
end Go.Proofs.YtokhfhibdeneeaaGreatDoor

namespace Go.Proofs.YtokhfhibdeneeaaGreatDoor
open Go.RowKit
/-- What stands behind the first part of an index. -/
def indexT (E : Env) (K : Kn) (a x : Nd) (s : Rs) : Rr Nd :=
  if isT E s [58] then
    if isT E (adv s 1) [93] then .ok (((a.push x).withKind 47).push (noneN E (adv s 1)) |>.push (noneN E (adv s 1))) (adv s 1) else
    (K.expr (adv s 1)).bind fun y s =>
    if isT E s [58] then (K.expr (adv s 1)).bind fun z s' => .ok (((a.push x).withKind 47).push y |>.push z) s'
    else .ok (((a.push x).withKind 47).push y |>.push (noneN E s)) s
  else .ok (a.push x) s
section
variable {E : Env} {M : Rm} {w0 W w1 W' : World} {rows : List Rw} {gs : Option Gv} {ts : List (Nd × Value)} {st s s' : Rs} {K : Kn} {g : Gv}
/-- What a method leaves that takes a tree in. -/
def PostS (E : Env) (M : Rm) (w0 : World) (rows : List Rw) (gs : Option Gv) (r : Rr Nd) (e : Ending) (W' : World) : Prop :=
  match r with
  | .ok x s => ∃ v, e = .returned v ∧ St E M w0 rows gs [(x, v)] s W'
  | .bad i => e = .panicked (stuckP (E.tok i)) ∧ Fp M.bp w0 W'
  | .out => False
theorem PostS.use {β : Type} {Q : Ending → World → Prop} {r : Rr Nd} {k : Nd → Rs → Rr β} {R : Rr β} {f : FuncId} {args : Array Value} (hR : r.bind k = R) (hne : R ≠ .out) (hc : r ≠ .out → Calls Tryz.prog f args W (PostS E M w0 rows gs r))
    (hbad : ∀ i W', R = .bad i → Fp M.bp w0 W' → Q (.panicked (stuckP (E.tok i))) W')
    (hok : ∀ x s v W', k x s = R → St E M w0 rows gs [(x, v)] s W' → Q (.returned v) W') : Calls Tryz.prog f args W Q := by
  have h0 : r ≠ .out := fun e => hne (by rw [← hR, e]; rfl)
  refine (hc h0).mono fun e W' h => ?_
  cases r with
  | ok x s =>
    obtain ⟨v, rfl, hs⟩ := h
    exact hok x s v W' hR hs
  | bad i =>
    obtain ⟨rfl, hf⟩ := h
    exact hbad i W' hR.symm hf
  | out => exact absurd rfl h0
theorem badS {R : Rr Nd} {i : Nat} (hi : R = .bad i) (hf : Fp M.bp w0 W) : PostS E M w0 rows gs R (.panicked (stuckP (E.tok i))) W := by
  subst hi
  exact ⟨rfl, hf⟩
/-- The end of such a method. -/
theorem St.finS {fn : Func} {slot : Nat} (hr : fn.results = #[.cell slot 25]) {tmps : Array Value} {gb : Nat} {k n a : Int} {sx : ByteArray} {lv : Value} {t : Nd} {R : Rr Nd} {ty : TypeId}
    (h : St E M w0 ((gb, #[.int .i64 k, .string sx, .int .i64 n, .int .i64 a, lv], ty) :: rows) gs ((t, .agg #[.int .i64 k, .string sx, .int .i64 n, .int .i64 a, lv]) :: ts) s W) (ht : tmps.getD slot undef = .pointer (some ⟨gb, 0, none⟩)) (hR : Rr.ok t s = R) :
    bodyPost Tryz.prog fn (PostS E M w0 rows gs R) .ret ⟨tmps, []⟩ W := by
  subst hR
  exact end_node hr ht ⟨_, _, (h.bx.rw _ (List.mem_cons_self ..)).2⟩ ⟨_, rfl, h.retire.mono_ts (memC (List.mem_cons_self ..) (mem0 _))⟩
theorem ownLen {lo n n' : Nat} {e : TypeId} {size : Nat} {v : Value} {ys : List Value} (h : n = n') (ho : W.ownsRow lo e size v n ys) : W.ownsRow lo e size v n' ys := h ▸ ho
theorem hu_set {p : Addr} {v : Value} {x : Nat} (_h : St E M w0 rows gs ts s (W.setCell p v)) (hu : x ≤ W.heap.size) : x ≤ (W.setCell p v).heap.size := by simpa using hu
def IndexOk (E : Env) (M : Rm) (K : Kn) : Prop := ∀ (w0 : World) (rows : List Rw) (ts : List (Nd × Value)) (s : Rs) (W : World) (n : Nd) (v : Value), St E M w0 rows none ((n, v) :: ts) s W → indexR E K n s ≠ .out →
  Calls Tryz.prog 187 #[.pointer (some ⟨M.bp, 0, none⟩), v] W (PostS E M w0 rows none (indexR E K n s))
end
end Go.Proofs.YtokhfhibdeneeaaGreatDoor
