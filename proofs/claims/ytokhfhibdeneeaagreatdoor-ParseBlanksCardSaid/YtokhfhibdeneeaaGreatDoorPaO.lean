/- place, within, inHead, branch. -/
import Derived.Test.YtokhfhibdeneeaaGreatDoorMPaM
import Derived.Test.YtokhfhibdeneeaaGreatDoorMLiesP
namespace Go.Proofs.YtokhfhibdeneeaaGreatDoor
open Go.RowKit
theorem ba_beq (t : ByteArray) (l : List UInt8) : (t == bs l) = (t.toList == l) := by
 rw [ByteArray.toList_eq]
 cases t with
 | mk d =>
 cases d with
 | mk m =>
 show ((⟨m⟩ : Array UInt8) == ⟨l⟩) = (m == l)
 simp
section
variable {E : Env} {M : Rm} {w0 W w1 W' : World} {rows : List Rw} {gs : Option Gv} {ts : List (Nd × Value)} {st s s' : Rs} {K : Kn} {g : Gv}
theorem Bx.c6 (h : Bx M w0 rows gs ts W) {g : Nat} {v0 v1 v2 v3 v4 v5 : Value} {t : TypeId} (hm : (g, #[v0, v1, v2, v3, v4, v5], t) ∈ rows) :
 W.cell? ⟨g, 0, none⟩ = some v0 ∧ W.cell? ⟨g, 1, none⟩ = some v1 ∧ W.cell? ⟨g, 2, none⟩ = some v2 ∧ W.cell? ⟨g, 3, none⟩ = some v3 ∧ W.cell? ⟨g, 4, none⟩ = some v4 ∧ W.cell? ⟨g, 5, none⟩ = some v5 ∧ W.frozen? ⟨g, 0, none⟩ = false ∧ W.frozen? ⟨g, 1, none⟩ = false ∧ W.frozen? ⟨g, 2, none⟩ = false ∧ W.frozen? ⟨g, 3, none⟩ = false ∧ W.frozen? ⟨g, 4, none⟩ = false ∧ W.frozen? ⟨g, 5, none⟩ = false :=
 ⟨h.at_ hm 0 rfl, h.at_ hm 1 rfl, h.at_ hm 2 rfl, h.at_ hm 3 rfl, h.at_ hm 4 rfl, h.at_ hm 5 rfl, h.fz hm 0, h.fz hm 1, h.fz hm 2, h.fz hm 3, h.fz hm 4, h.fz hm 5⟩
/-- A token that is one of those read. -/
def VTkE (E : Env) (_ _ : World) (t : Tk) (v : Value) : Prop := v = .agg #[.int .i64 t.kind, .string t.str, .int .i64 t.at_] ∧ ∃ j, t = E.tok j
theorem want_tk (hE : EnvOk E M) (h : RdAt E M s W) (x : ByteArray) (l : List UInt8) (hx : x.data.toList = l) : Calls Tryz.prog 90 #[.pointer (some ⟨M.bp, 0, none⟩), .string x] W (Post E M (VTkE E) W (wantR E l s)) := by
 refine (want_any hE h x l hx).mono fun e w' hp => ?_
 cases hr : wantR E l s with
 | ok y s1 =>
  rw [hr] at hp
  obtain ⟨⟨v, h1, h2⟩, h3, h4⟩ := hp
  refine ⟨⟨v, h1, h2, s.i, ?_⟩, h3, h4⟩
  unfold wantR at hr
  split at hr
  · injection hr with hr _
    exact hr.symm
  · cases hr
 | bad i => rw [hr] at hp; exact hp
 | out => rw [hr] at hp; exact hp
/-- place. -/
theorem place_any (k : Int) (t : ByteArray) (n a : Int) (ks : List Nd) (lv : Value) (w : World) : Calls Tryz.prog 192 #[.agg #[.int .i64 k, .string t, .int .i64 n, .int .i64 a, lv]] w fun e w' => e = .returned (.bool (placeB (.mk k t n a ks))) ∧ Below w.heap.size w w' := by
 obtain ⟨R, HR⟩ : ∃ R, Hid (placeB (.mk k t n a ks) = R) := ⟨_, rfl⟩
 rw [HR.out]
 go_enter Tryz.func192, Tryz.ntmps192
 go_wp2
 all_goals
  go_ret
  first
   | (exfalso; simp_all; done)
   | (exact ⟨ret_bool (by rw [← HR.out]; simp only [placeB, Nd.kind, Nd.text, ba_beq]; simp [*]), (Below.refl _ _).alloc (Nat.le_refl _) _⟩)

/-- What a function value reads. -/
def Form (E : Env) (M : Rm) (f : FuncId) (m : Rs → Rr Nd) : Prop :=
 (∀ W, Sem.run Tryz.prog (callFunc f #[.pointer (some ⟨M.bp, 0, none⟩)]) W = .ok (.enter f #[.pointer (some ⟨M.bp, 0, none⟩)]) W) ∧ ∀ s W, RdAt E M s W → m s ≠ .out → Calls Tryz.prog f #[.pointer (some ⟨M.bp, 0, none⟩)] W (Post E M VNd W (m s))
/-- A tree and a Bool. -/
def VNb (w w' : World) (x : Nd × Bool) (v : Value) : Prop := ∃ u, v = .tuple #[u, .bool x.2] ∧ VNd w w' x.1 u
theorem end_nb {fn : Func} {slot sb : Nat} (hr : fn.results = #[.cell slot 25, .tmp sb]) {R : Ending → World → Prop} {tmps : Array Value} {W : World} {g : Nat} {v0 v1 v2 v3 v4 b : Value} (ht : tmps.getD slot undef = .pointer (some ⟨g, 0, none⟩)) (hb : tmps.getD sb undef = b)
 (hg : ∃ t fz, W.heap[g]? = some (.cells #[v0, v1, v2, v3, v4] t fz)) (h : R (.returned (.tuple #[.agg #[v0, v1, v2, v3, v4], b])) W) : bodyPost Tryz.prog fn R .ret ⟨tmps, []⟩ W := by
 obtain ⟨t, fz, hg⟩ := hg
 have h0 : W.cell? ⟨g, 0, none⟩ = some v0 := cell_of_row W g 0 _ _ _ hg
 have h1 : W.cell? ⟨g, 1, none⟩ = some v1 := cell_of_row W g 1 _ _ _ hg
 have h2 : W.cell? ⟨g, 2, none⟩ = some v2 := cell_of_row W g 2 _ _ _ hg
 have h3 : W.cell? ⟨g, 3, none⟩ = some v3 := cell_of_row W g 3 _ _ _ hg
 have h4 : W.cell? ⟨g, 4, none⟩ = some v4 := cell_of_row W g 4 _ _ _ hg
 have ht' : tmps[slot]?.getD undef = .pointer (some ⟨g, 0, none⟩) := by simpa using ht
 have hb' : tmps[sb]?.getD undef = b := by simpa using hb
 exact bodyPost_ret (v := .tuple #[.agg #[v0, v1, v2, v3, v4], b]) (by simp [results, hr, go_sem, ht', hb', h0, h1, h2, h3, h4]) rfl h

set_option maxRecDepth 100000 in
set_option maxHeartbeats 4000000 in
theorem within_rd (hE : EnvOk E M) {f : FuncId} {m : Rs → Rr Nd} (hf : Form E M f m) (h : RdAt E M s W) (typ : Bool) (hne : withinR m typ s ≠ .out) :
 Calls Tryz.prog 227 #[.pointer (some ⟨M.bp, 0, none⟩), .func (.func f) #[.pointer (some ⟨M.bp, 0, none⟩)] #[], .bool typ] W (Post E M VNb W (withinR m typ s)) := by
 obtain ⟨R, HR⟩ : ∃ R, Hid (withinR m typ s = R) := ⟨_, rfl⟩
 have hneR : R ≠ .out := by rw [← HR.out]; exact hne
 clear hne
 rw [HR.out]
 have HNE := Lib.hid hneR
 have HSP0 : Hid (((m { s with head := true, typ := typ, done := false }).bind fun x s' => .ok (x, s'.done) { s' with head := s.head, typ := s.typ, done := s.done } : Rr (Nd × Bool)) = R) := HR.out
 have HFM := Lib.hid hf.2
 have hent := hf.1
 clear hf
 have HS1 := Lib.hid (((St.init h).pz).push #[.slice M.A E.n M.cap, .int .i64 s.i, .int .i64 M.long, .bool s.head, .bool s.typ, .bool s.done] 81)
 try simp only [World.size_alloc] at HS1
 have a1Y := HS1.bx.c6 M0
 have a1R := F5 HS1 M1
 have c1_3 := HS1.rd.c3
 have f1_3 := HS1.rd.fz 3
 have c1_4 := HS1.rd.c4
 have f1_4 := HS1.rd.fz 4
 have c1_5 := HS1.rd.c5
 have f1_5 := HS1.rd.fz 5
 have c0 := h.c0
 have c1 := h.c1
 have c2 := h.c2
 have c3 := h.c3
 have c4 := h.c4
 have c5 := h.c5
 have a0 := (h.alloc (.cells #[.int .i64 0, .string ⟨#[]⟩, .int .i64 0, .int .i64 0, .slice none 0 0] 25 (0, 0))).c0
 have a1 := (h.alloc (.cells #[.int .i64 0, .string ⟨#[]⟩, .int .i64 0, .int .i64 0, .slice none 0 0] 25 (0, 0))).c1
 have a2 := (h.alloc (.cells #[.int .i64 0, .string ⟨#[]⟩, .int .i64 0, .int .i64 0, .slice none 0 0] 25 (0, 0))).c2
 have a3 := (h.alloc (.cells #[.int .i64 0, .string ⟨#[]⟩, .int .i64 0, .int .i64 0, .slice none 0 0] 25 (0, 0))).c3
 have a4 := (h.alloc (.cells #[.int .i64 0, .string ⟨#[]⟩, .int .i64 0, .int .i64 0, .slice none 0 0] 25 (0, 0))).c4
 have a5 := (h.alloc (.cells #[.int .i64 0, .string ⟨#[]⟩, .int .i64 0, .int .i64 0, .slice none 0 0] 25 (0, 0))).c5
 clear hneR HR h
 have HS2 := Lib.hid (HS1.setHead hE true); try simp only [sz] at HS2
 have a3Y := HS2.bx.c6 M0
 have a3R := F5 HS2 M1
 have c3_3 := HS2.rd.c3
 have f3_3 := HS2.rd.fz 3
 have c3_4 := HS2.rd.c4
 have f3_4 := HS2.rd.fz 4
 have c3_5 := HS2.rd.c5
 have f3_5 := HS2.rd.fz 5
 have HS4 := Lib.hid (HS2.setTyp hE typ); try simp only at HS4
 have a5Y := HS4.bx.c6 M0
 have a5R := F5 HS4 M1
 have c5_3 := HS4.rd.c3
 have f5_3 := HS4.rd.fz 3
 have c5_4 := HS4.rd.c4
 have f5_4 := HS4.rd.fz 4
 have c5_5 := HS4.rd.c5
 have f5_5 := HS4.rd.fz 5
 have HS6 := Lib.hid (HS4.setDone hE false); try simp only at HS6
 have a7Y := HS6.bx.c6 M0
 have a7R := F5 HS6 M1
 have c7_3 := HS6.rd.c3
 have f7_3 := HS6.rd.fz 3
 have c7_4 := HS6.rd.c4
 have f7_4 := HS6.rd.fz 4
 have c7_5 := HS6.rd.c5
 have f7_5 := HS6.rd.fz 5
 go_enter Tryz.func227, Tryz.ntmps227
 go_wp2_with fail
 refine Post.use HSP0.out HNE.out (fun h0 => HFM.out _ _ HS6.rd h0) (be HS6.fp) ?_
 intro x8 s8 v8 w8 hsp8 hv8 hr8 hf8
 obtain ⟨k8, t8, n8, a8, ks8⟩ := x8
 obtain ⟨A8, cap8, rfl⟩ := VNd.form hv8
 clear a1Y a1R c1_3 f1_3 c1_4 f1_4 c1_5 f1_5 c0 c1 c2 c3 c4 c5 a0 a1 a2 a3 a4 a5 a3Y a3R c3_3 f3_3 c3_4 f3_4 c3_5 f3_5 a5Y a5R c5_3 f5_3 c5_4 f5_4 c5_5 f5_5 a7Y a7R c7_3 f7_3 c7_4 f7_4 c7_5 f7_5
 have HS9 := Lib.hid ((HS6.read hr8 hf8 hv8).pn k8 t8 n8 a8 (.slice A8 ks8.length cap8)); try simp only [sz] at HS9
 have a10X := F5 HS9 M0
 have a10Y := HS9.bx.c6 M1
 have a10R := F5 HS9 M2
 have c10_3 := HS9.rd.c3
 have f10_3 := HS9.rd.fz 3
 have c10_4 := HS9.rd.c4
 have f10_4 := HS9.rd.fz 4
 have c10_5 := HS9.rd.c5
 have f10_5 := HS9.rd.fz 5
 have HSP8 := Lib.hid hsp8
 clear hsp8 hr8 hf8
 go_wp2_with fail
 clear a10X a10Y a10R c10_3 f10_3 c10_4 f10_4 c10_5 f10_5
 have hs11 := HS9.drew
 refine wp_region_G [] (fun Wx => Wx.cell? ⟨(W.heap.size + 1), 3, none⟩ = some (.bool s.head) ∧ Wx.cell? ⟨(W.heap.size + 1), 4, none⟩ = some (.bool s.typ) ∧ Wx.cell? ⟨(W.heap.size + 1), 5, none⟩ = some (.bool s.done)) (by rfl) ?_ (fun hHeld => ?_)
 · exact ⟨hs11.a M1 3, hs11.a M1 4, hs11.a M1 5⟩
 revert hs11 hHeld
 generalize World.drew _ = wd11
 intro hs11 hHeld
 refine tk 0 (h := tk 1 (h := tk 2 (h := tk 3 (h := tk 4 (h := tk 5 (h := tk 6 (h := tk 7 (h := tk 8 (h := tk 9 (h := tk 10 (h := ?_)))))))))))
 try simp only [nm]
 refine rd1 11 fun KK hKK => ?_
 have c12 := hs11.rd.c3
 have f12 := hs11.rd.fz 3
 go_simp
 clear c12 f12
 have hs13 := (hs11.setHead hE s.head); try simp only [sz] at hs13
 refine hKK.out _ _ (⟨hs13.a M1 3, hs13.a M1 4, hs13.a M1 5⟩) (fun hHeld => ?_)
 clear hKK KK
 refine tk 12 (h := tk 13 (h := ?_))
 try simp only [nm]
 refine rd1 14 fun KK hKK => ?_
 have c14 := hs13.rd.c4
 have f14 := hs13.rd.fz 4
 go_simp
 clear c14 f14
 have hs15 := (hs13.setTyp hE s.typ); try simp only at hs15
 refine hKK.out _ _ (⟨hs15.a M1 3, hs15.a M1 4, hs15.a M1 5⟩) (fun hHeld => ?_)
 clear hKK KK
 refine tk 15 (h := tk 16 (h := ?_))
 try simp only [nm]
 refine rd1 17 fun KK hKK => ?_
 have c16 := hs15.rd.c5
 have f16 := hs15.rd.fz 5
 go_simp
 clear c16 f16
 have hs17 := (hs15.setDone hE s.done); try simp only at hs17
 refine hKK.out _ _ (⟨hs17.a M1 3, hs17.a M1 4, hs17.a M1 5⟩) (fun hHeld => ?_)
 clear hKK KK
 try simp only [nm]
 refine wpAnyG_done (by kernel_rfl) ?_ _
 have HS18 := Lib.hid hs17; try simp only [sz] at HS18
 have a19X := F5 HS18 M0
 have a19Y := HS18.bx.c6 M1
 have a19R := F5 HS18 M2
 clear hs11 hs13 hs15 hs17
 go_wp2_with fail
 have hs20 := (HS18.swap3.set5 (.int .i64 k8) (.string t8) (.int .i64 n8) (.int .i64 a8) (.slice A8 ks8.length cap8))
 have hfin : Rr.ok (.mk k8 t8 n8 a8 ks8, s8.done) { s8 with head := s.head, typ := s.typ, done := s.done } = R := HSP8.out
 rw [← hfin]
 exact end_nb rfl rfl rfl ⟨_, _, (hs20.bx.rw _ M0).2⟩ ⟨⟨_, rfl, _, rfl, (hs20.bx.tr _ M0).toA fun b hb => ⟨hb.1, hb.2.1⟩⟩, hs20.rd, hs20.fp⟩

set_option maxRecDepth 100000 in
theorem expr_form (hK : KOK E M K) : Form E M 37 K.expr := ⟨fun _W => rfl, fun s W h h0 => hK.expr s W h h0⟩

set_option maxRecDepth 100000 in
set_option maxHeartbeats 4000000 in
theorem inHead_rd (hE : EnvOk E M) (hK : KOK E M K) (h : RdAt E M s W) (hne : inHeadR K s ≠ .out) :
 Calls Tryz.prog 185 #[.pointer (some ⟨M.bp, 0, none⟩)] W (Post E M VNd W (inHeadR K s)) := by
 obtain ⟨R, HR⟩ : ∃ R, Hid (inHeadR K s = R) := ⟨_, rfl⟩
 have hneR : R ≠ .out := by rw [← HR.out]; exact hne
 clear hne
 rw [HR.out]
 have HNE := Lib.hid hneR
 have HSP0 : Hid (((withinR K.expr false s).bind fun x s => .ok x.1 s : Rr Nd) = R) := HR.out
 have HS1 := Lib.hid ((St.init h).pz)
 have a1R := F5 HS1 M0
 have hmf : ∀ (fn : Fn) (first cap : Array Value) (w : World), (Instr.makeFunc fn first cap).run Tryz.prog w = .ok (.func fn first cap) w := fun _ _ _ _ => rfl
 clear hneR HR h
 go_enter Tryz.func185, Tryz.ntmps185
 go_wp2_with fail
 go_at_call 227
 refine Post.use HSP0.out HNE.out (fun h0 => within_rd hE (expr_form hK) HS1.rd false h0) (be HS1.fp) ?_
 intro x2 s2 v2 w2 hsp2 hv2 hr2 hf2
 obtain ⟨⟨k2, t2, n2, a2, ks2⟩, b2⟩ := x2
 obtain ⟨u2, rfl, hv2⟩ := hv2
 obtain ⟨A2, cap2, rfl⟩ := VNd.form hv2
 clear a1R
 have HS3 := Lib.hid ((HS1.read hr2 hf2 hv2).pn k2 t2 n2 a2 (.slice A2 ks2.length cap2)); try simp only at HS3
 have a4 := J2 (F5 HS3 M0) (F5 HS3 M1)
 have HSP2 := Lib.hid hsp2
 clear hsp2 hr2 hf2
 go_wp2_with fail
 have hs5 := (HS3.swap.set5 (.int .i64 k2) (.string t2) (.int .i64 n2) (.int .i64 a2) (.slice A2 ks2.length cap2))
 refine St.fin (slot := 2) rfl hs5 rfl (hs5.bx.tr _ M0) ?_
 exact HSP2.out

set_option maxRecDepth 100000 in
set_option maxHeartbeats 4000000 in
theorem branch_rd (hE : EnvOk E M) (hK : KOK E M K) (h : RdAt E M s W) (hne : branchR E K s ≠ .out) :
 Calls Tryz.prog 144 #[.pointer (some ⟨M.bp, 0, none⟩)] W (Post E M VNd W (branchR E K s)) := by
 obtain ⟨R, HR⟩ : ∃ R, Hid (branchR E K s = R) := ⟨_, rfl⟩
 have hneR : R ≠ .out := by rw [← HR.out]; exact hne
 clear hne
 rw [HR.out]
 have HNE := Lib.hid hneR
 have HSP0 : Hid (((wantR E [105, 102] s).bind fun t s => (inHeadR K s).bind fun x s => (blockR E K s).bind fun y s => if isT E s [101, 108, 115, 101] then (if isT E (adv s 1) [105, 102] then K.branch (adv s 1) else blockR E K (adv s 1)).bind fun z s => .ok (.mk 22 (bs []) 0 t.at_ [x, y, z]) s else .ok (.mk 22 (bs []) 0 t.at_ [x, y, noneN E s]) s : Rr Nd) = R) := HR.out
 have HS1 := Lib.hid ((St.init h).pz)
 have a1R := F5 HS1 M0
 have hfi0 := fieldTok0
 have hfi1 := fieldTok1
 have hfi2 := fieldTok2
 have hfn0 := fieldNd0
 have hfn1 := fieldNd1
 clear hneR HR h
 go_enter Tryz.func144, Tryz.ntmps144
 go_wp2_with fail
 go_at_call 90
 refine Post.use HSP0.out HNE.out (fun _ => want_tk hE HS1.rd ⟨#[105, 102]⟩ [105, 102] rfl) (be HS1.fp) ?_
 intro x2 s2 v2 w2 hsp2 hv2 hr2 hf2
 obtain ⟨hv2, j2, rfl⟩ := hv2
 obtain rfl : v2 = _ := hv2
 clear a1R
 have HS3 := Lib.hid ((HS1.go hr2 hf2).push #[.int .i64 22, .string ⟨#[]⟩, .int .i64 0, .int .i64 (E.tok j2).at_, .slice none 0 0] 25); try simp only [sz] at HS3
 have a4 := J2 (F5 HS3 M0) (F5 HS3 M1)
 have HSP2 := Lib.hid hsp2
 clear hsp2 hr2 hf2
 go_wp2_with fail
 go_at_call 185
 refine Post.use HSP2.out HNE.out (fun h0 => inHead_rd hE hK HS3.rd h0) (be HS3.fp) ?_
 intro x5 s5 v5 w5 hsp5 hv5 hr5 hf5
 obtain ⟨k5, t5, n5, a5, ks5⟩ := x5
 obtain ⟨A5, cap5, rfl⟩ := VNd.form hv5
 clear a4
 have HS6 := Lib.hid (HS3.read hr5 hf5 hv5); try simp only [sz] at HS6
 have a7 := J2 (F5 HS6 M0) (F5 HS6 M1)
 have HSP5 := Lib.hid hsp5
 clear hsp5 hr5 hf5
 go_wp2_with fail
 go_at_call 140
 refine Post.use HSP5.out HNE.out (fun h0 => block_rd hE hK HS6.rd h0) (be HS6.fp) ?_
 intro x8 s8 v8 w8 hsp8 hv8 hr8 hf8
 obtain ⟨k8, t8, n8, a8, ks8⟩ := x8
 obtain ⟨A8, cap8, rfl⟩ := VNd.form hv8
 clear a7
 have HS9 := Lib.hid (HS6.read hr8 hf8 hv8); try simp only [sz] at HS9
 have a10 := J2 (F5 HS9 M0) (F5 HS9 M1)
 have HSP8 := Lib.hid hsp8
 clear hsp8 hr8 hf8
 go_wp2_with fail
 go_at_call 145
 refine (none_rd hE HS9.rd).mono ?_
 rintro e w11 ⟨rfl, hb11⟩
 clear a10
 have HS12 := Lib.hid ((HS9.below hb11).push #[.int .i64 k5, .string t5, .int .i64 n5, .int .i64 a5, .slice A5 ks5.length cap5, .int .i64 k8, .string t8, .int .i64 n8, .int .i64 a8, .slice A8 ks8.length cap8, .int .i64 16, .string ⟨#[]⟩, .int .i64 0, .int .i64 (cur E s8).at_, .slice none 0 0] 25); try simp only [sz] at HS12
 have a13 := J2 (F5 HS12 M1) (F5 HS12 M2)
 clear hb11
 have HS14 := Lib.hid (HS12.swap.setRow 4 (.slice (some ⟨w11.heap.size, 0, none⟩) 3 3)); try simp only [sz] at HS14
 have a15 := J2 (F5 HS14 M0) (F5 HS14 M2)
 cases hb : isT E s8 [101, 108, 115, 101] with
 | true =>
  have hsp16 := HSP8.out
  simp only [hb, reduceIte] at hsp16
  have HSP16 := Lib.hid hsp16
  clear hsp16
  have htk16 : takeS E [101, 108, 115, 101] s8 = adv s8 1 := by rw [takeS, hb]; rfl
  go_wp2_with fail
  go_at_call 86
  refine (take_any hE HS14.rd ⟨#[101, 108, 115, 101]⟩ [101, 108, 115, 101] rfl).mono ?_
  rw [hb]
  rw [htk16]
  rintro e w17 ⟨rfl, hr17, hf17⟩
  clear a13 a15
  have HS18 := Lib.hid (HS14.go hr17 hf17); try simp only [sz] at HS18
  have a19 := J2 (F5 HS18 M0) (F5 HS18 M2)
  clear hr17 hf17
  cases hb2 : isT E (adv s8 1) [105, 102] with
  | true =>
   have hsp20 := HSP16.out
   simp only [hb2, reduceIte] at hsp20
   have HSP20 := Lib.hid hsp20
   clear hsp20
   go_wp2_with fail
   go_at_call 139
   refine (is_any hE HS18.rd ⟨#[105, 102]⟩ [105, 102] rfl).mono ?_
   rw [hb2]
   rintro e w21 ⟨rfl, hb21⟩
   clear a19
   have HS22 := Lib.hid (HS18.below hb21); try simp only [sz] at HS22
   have a23 := J2 (F5 HS22 M0) (F5 HS22 M2)
   clear hb21
   go_wp2_with fail
   clear a23
   have hs24 := HS22.drew
   refine wp_region_G [] (fun Wx => Wx.cell? ⟨w2.heap.size, 4, none⟩ = some (.slice (some ⟨w11.heap.size, 0, none⟩) 3 3)) (by rfl) ?_ (fun hHeld => ?_)
   · exact hs24.a M0 4
   revert hs24 hHeld
   generalize World.drew _ = wd24
   intro hs24 hHeld
   refine tk 0 (h := tk 1 (h := tk 2 (h := ?_)))
   try simp only [nm]
   refine rd1 3 fun KK hKK => ?_
   go_simp
   go_at_call 144
   refine Post.nd HSP20 HNE (fun h0 => hK.branch _ _ hs24.rd h0) (be hs24.fp) ?_
   intro k25 t25 n25 a25 ks25 s25 A25 cap25 w25 HSP25 hv25 hr25 hf25
   have hs26 := (hs24.read hr25 hf25 hv25); try simp only [sz] at hs26
   refine hKK.out _ _ (hs26.a M0 4) (fun hHeld => ?_)
   clear hKK KK
   refine tk 4 (h := ?_)
   try simp only [nm]
   refine rd1 5 fun KK hKK => ?_
   have q27_0 := hs26.a M1 10
   have y27_0 := hs26.bx.fz M1 10
   have q27_1 := hs26.a M1 11
   have y27_1 := hs26.bx.fz M1 11
   have q27_2 := hs26.a M1 12
   have y27_2 := hs26.bx.fz M1 12
   have q27_3 := hs26.a M1 13
   have y27_3 := hs26.bx.fz M1 13
   have q27_4 := hs26.a M1 14
   have y27_4 := hs26.bx.fz M1 14
   go_simp
   clear q27_0 y27_0 q27_1 y27_1 q27_2 y27_2 q27_3 y27_3 q27_4 y27_4
   have hs28 := (((((hs26.swap.setRow 10 (.int .i64 k25)).setRow 11 (.string t25)).setRow 12 (.int .i64 n25)).setRow 13 (.int .i64 a25)).setRow 14 (.slice A25 ks25.length cap25)); try simp only [sz] at hs28
   refine hKK.out _ _ (hs28.a M1 4) (fun hHeld => ?_)
   clear hKK KK
   try simp only [nm]
   refine wpAnyG_done (by kernel_rfl) ?_ _
   have HS29 := Lib.hid hs28; try simp only [sz] at HS29
   clear hs24 hs26 hs28
   have HS31 := Lib.hid (HS29.node [(.mk k5 t5 n5 a5 ks5, .agg #[.int .i64 k5, .string t5, .int .i64 n5, .int .i64 a5, .slice A5 ks5.length cap5]), (.mk k8 t8 n8 a8 ks8, .agg #[.int .i64 k8, .string t8, .int .i64 n8, .int .i64 a8, .slice A8 ks8.length cap8]), (.mk k25 t25 n25 a25 ks25, .agg #[.int .i64 k25, .string t25, .int .i64 n25, .int .i64 a25, .slice A25 ks25.length cap25])] rfl (memC M2 (memC M1 (memC M0 (mem0 _)))) (k := 22) (sx := ⟨#[]⟩) (n := 0) (a := (E.tok j2).at_) ok_lit ok_lit (hE.at_ _) (by decide) (l := 3) rfl (by decide)); try simp only [sz] at HS31
   have a32 := J2 (F5 HS31 M0) (F5 HS31 M1)
   go_wp2_with fail
   have hs33 := (HS31.swap.set5 (.int .i64 22) (.string ⟨#[]⟩) (.int .i64 0) (.int .i64 (E.tok j2).at_) (.slice (some ⟨w11.heap.size, 0, none⟩) 3 3))
   refine St.fin (slot := 2) rfl hs33 rfl (hs33.bx.tr _ M0) ?_
   exact HSP25.out
  | false =>
  have hsp20 := HSP16.out
  simp only [hb2, sm, reduceIte] at hsp20
  have HSP20 := Lib.hid hsp20
  clear hsp20
  go_wp2_with fail
  go_at_call 139
  refine (is_any hE HS18.rd ⟨#[105, 102]⟩ [105, 102] rfl).mono ?_
  rw [hb2]
  rintro e w21 ⟨rfl, hb21⟩
  clear a19
  have HS22 := Lib.hid (HS18.below hb21); try simp only [sz] at HS22
  have a23 := J2 (F5 HS22 M0) (F5 HS22 M2)
  clear hb21
  go_wp2_with fail
  clear a23
  have hs24 := HS22.drew
  refine wp_region_G [] (fun Wx => Wx.cell? ⟨w2.heap.size, 4, none⟩ = some (.slice (some ⟨w11.heap.size, 0, none⟩) 3 3)) (by rfl) ?_ (fun hHeld => ?_)
  · exact hs24.a M0 4
  revert hs24 hHeld
  generalize World.drew _ = wd24
  intro hs24 hHeld
  refine tk 0 (h := tk 1 (h := tk 2 (h := ?_)))
  try simp only [nm]
  refine rd1 3 fun KK hKK => ?_
  go_simp
  go_at_call 140
  refine Post.nd HSP20 HNE (fun h0 => block_rd hE hK hs24.rd h0) (be hs24.fp) ?_
  intro k25 t25 n25 a25 ks25 s25 A25 cap25 w25 HSP25 hv25 hr25 hf25
  have hs26 := (hs24.read hr25 hf25 hv25); try simp only [sz] at hs26
  refine hKK.out _ _ (hs26.a M0 4) (fun hHeld => ?_)
  clear hKK KK
  refine tk 4 (h := ?_)
  try simp only [nm]
  refine rd1 5 fun KK hKK => ?_
  have q27_0 := hs26.a M1 10
  have y27_0 := hs26.bx.fz M1 10
  have q27_1 := hs26.a M1 11
  have y27_1 := hs26.bx.fz M1 11
  have q27_2 := hs26.a M1 12
  have y27_2 := hs26.bx.fz M1 12
  have q27_3 := hs26.a M1 13
  have y27_3 := hs26.bx.fz M1 13
  have q27_4 := hs26.a M1 14
  have y27_4 := hs26.bx.fz M1 14
  go_simp
  clear q27_0 y27_0 q27_1 y27_1 q27_2 y27_2 q27_3 y27_3 q27_4 y27_4
  have hs28 := (((((hs26.swap.setRow 10 (.int .i64 k25)).setRow 11 (.string t25)).setRow 12 (.int .i64 n25)).setRow 13 (.int .i64 a25)).setRow 14 (.slice A25 ks25.length cap25)); try simp only [sz] at hs28
  refine hKK.out _ _ (hs28.a M1 4) (fun hHeld => ?_)
  clear hKK KK
  try simp only [nm]
  refine wpAnyG_done (by kernel_rfl) ?_ _
  have HS29 := Lib.hid hs28; try simp only [sz] at HS29
  clear hs24 hs26 hs28
  have HS31 := Lib.hid (HS29.node [(.mk k5 t5 n5 a5 ks5, .agg #[.int .i64 k5, .string t5, .int .i64 n5, .int .i64 a5, .slice A5 ks5.length cap5]), (.mk k8 t8 n8 a8 ks8, .agg #[.int .i64 k8, .string t8, .int .i64 n8, .int .i64 a8, .slice A8 ks8.length cap8]), (.mk k25 t25 n25 a25 ks25, .agg #[.int .i64 k25, .string t25, .int .i64 n25, .int .i64 a25, .slice A25 ks25.length cap25])] rfl (memC M2 (memC M1 (memC M0 (mem0 _)))) (k := 22) (sx := ⟨#[]⟩) (n := 0) (a := (E.tok j2).at_) ok_lit ok_lit (hE.at_ _) (by decide) (l := 3) rfl (by decide)); try simp only [sz] at HS31
  have a32 := J2 (F5 HS31 M0) (F5 HS31 M1)
  go_wp2_with fail
  have hs33 := (HS31.swap.set5 (.int .i64 22) (.string ⟨#[]⟩) (.int .i64 0) (.int .i64 (E.tok j2).at_) (.slice (some ⟨w11.heap.size, 0, none⟩) 3 3))
  refine St.fin (slot := 2) rfl hs33 rfl (hs33.bx.tr _ M0) ?_
  exact HSP25.out
 | false =>
 have hsp16 := HSP8.out
 simp only [hb, sm, reduceIte] at hsp16
 have HSP16 := Lib.hid hsp16
 clear hsp16
 have htk16 : takeS E [101, 108, 115, 101] s8 = s8 := by rw [takeS, hb]; rfl
 go_wp2_with fail
 go_at_call 86
 refine (take_any hE HS14.rd ⟨#[101, 108, 115, 101]⟩ [101, 108, 115, 101] rfl).mono ?_
 rw [hb]
 rw [htk16]
 rintro e w17 ⟨rfl, hr17, hf17⟩
 clear a13 a15
 have HS18 := Lib.hid (HS14.go hr17 hf17); try simp only [sz] at HS18
 have a19 := J2 (F5 HS18 M0) (F5 HS18 M2)
 clear hr17 hf17
 go_wp2_with fail
 have hs22 := (((HS18.tree (t := .mk 16 ⟨#[]⟩ 0 (cur E s8).at_ []) (v := .agg #[.int .i64 16, .string ⟨#[]⟩, .int .i64 0, .int .i64 (cur E s8).at_, .slice none 0 0]) (LiesP.leaf ok_lit ok_lit (hE.at_ _) (by decide))).swap.node [(.mk k5 t5 n5 a5 ks5, .agg #[.int .i64 k5, .string t5, .int .i64 n5, .int .i64 a5, .slice A5 ks5.length cap5]), (.mk k8 t8 n8 a8 ks8, .agg #[.int .i64 k8, .string t8, .int .i64 n8, .int .i64 a8, .slice A8 ks8.length cap8]), (.mk 16 ⟨#[]⟩ 0 (cur E s8).at_ [], .agg #[.int .i64 16, .string ⟨#[]⟩, .int .i64 0, .int .i64 (cur E s8).at_, .slice none 0 0])] rfl (memC M2 (memC M1 (memC M0 (mem0 _)))) (k := 22) (sx := ⟨#[]⟩) (n := 0) (a := (E.tok j2).at_) ok_lit ok_lit (hE.at_ _) (by decide) (l := 3) rfl (by decide)).swap.set5 (.int .i64 22) (.string ⟨#[]⟩) (.int .i64 0) (.int .i64 (E.tok j2).at_) (.slice (some ⟨w11.heap.size, 0, none⟩) 3 3))
 refine St.fin (slot := 2) rfl hs22 rfl (hs22.bx.tr _ M0) ?_
 exact HSP16.out

end
end Go.Proofs.YtokhfhibdeneeaaGreatDoor
