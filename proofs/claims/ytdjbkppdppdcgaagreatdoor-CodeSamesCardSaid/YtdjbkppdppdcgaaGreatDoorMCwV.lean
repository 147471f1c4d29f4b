/- code.says where nothing may stand, code.fine. (*strings.Builder).WriteString as this cut has it. -/
import Derived.Lib.Builder
import Derived.Test.YtdjbkppdppdcgaaGreatDoorCwU
import Derived.Test.YtdjbkppdppdcgaaGreatDoorCwG
import Derived.Test.YtdjbkppdppdcgaaGreatDoorMCxD
namespace Go.Proofs.YtdjbkppdppdcgaaGreatDoor
open Go.RowKit

/-- What says answers. -/
def SaysOk (x : Ci) : Prop := ∀ w, Gc w → Calls Tryz.prog 58 #[insV x] w fun e w' => e = .returned (.bool (saysB x)) ∧ Below w.heap.size w w'
attribute [local go_sem] fieldFm2
theorem says_zero {x : Ci} (h : (formOf x.op).text = 0) : saysB x = x.text.data.toList.isEmpty := by
  unfold saysB
  simp only [h]
set_option maxRecDepth 100000 in
set_option maxHeartbeats 4000000 in
theorem says_plain (x : Ci) (h : (formOf x.op).text = 0) : SaysOk x := by
  intro w _
  have HF := Lib.hid (forms_call x.op)
  have HS := Lib.hid (says_zero h)
  obtain ⟨F, hF⟩ : ∃ F, formOf x.op = F := ⟨_, rfl⟩
  rw [hF] at HF h
  rw [h] at HF
  obtain ⟨R, HR⟩ : ∃ R, Hid (saysB x = R) := ⟨_, rfl⟩
  rw [HR.out] at HS ⊢
  simp only [insV]
  clear hF h
  go_enter Tryz.func58, Tryz.ntmps58
  go_wp2_with (go_at_call 39; refine (HF.out _).mono ?_; rintro e w4 ⟨rfl, hb4⟩; have hx := (hb4.block w.heap.size (by simp)).trans (heap_alloc_new w _); have z3 := cell_of_row w4 _ 3 _ _ _ hx; simp only [List.getElem?_toArray, List.getElem?_cons_zero, List.getElem?_cons_succ] at z3; have HB := Lib.hid (((Below.refl w.heap.size w).alloc (Nat.le_refl _) (.cells #[.int .i64 x.op, .int .i64 x.a, .int .i64 x.b, .string x.text, .int .i64 x.at_] 46 (0, 0))).trans (hb4.mono (by simp))); clear hx hb4)
  go_ret
  refine ⟨ret_bool ?_, HB.out⟩
  rw [HS.out, ByteArray.toList_eq]

theorem LiesC.more {w : World} {B B' : Nat} {p : Cp} {v : Value} (h : LiesC w B p v) (hB : B ≤ B') : LiesC w B' p v := by
  obtain ⟨fa, fc, ga, gc, xs, h1, h2, h3, h4, h5, h6, h7⟩ := h
  exact ⟨fa, fc, ga, gc, xs, h1, h2, h3.more hB, h4.more hB, h5, h6, fun x hx => ⟨(h7 x hx).1.more hB, (h7 x hx).2.1.more hB, (h7 x hx).2.2⟩⟩
/-- Within fine: the boxes of the program, the instruction, the form. -/
structure FnAt (w : World) (v : Value) (cs : Array Value) (F : Cform) (pb xb fb : Nat) (W : World) : Prop where
  low : Below w.heap.size w W
  pr : ∃ ps, v = .agg ps ∧ W.heap[pb]? = some (.cells ps 25 (0, 0))
  xr : W.heap[xb]? = some (.cells cs 46 (0, 0))
  fr : W.heap[fb]? = some (.cells #[.string ⟨⟨F.word⟩⟩, .int .i64 F.a, .int .i64 F.text, .string ⟨⟨F.takes⟩⟩, .string ⟨⟨F.lays⟩⟩] 80 (0, 0))
theorem FnAt.under {w W W' : World} {v : Value} {cs : Array Value} {F : Cform} {pb xb fb : Nat} (h : FnAt w v cs F pb xb fb W) (hb : Below W.heap.size W W') : FnAt w v cs F pb xb fb W' := by
  obtain ⟨ps, h1, h2⟩ := h.pr
  exact ⟨h.low.trans (hb.mono h.low.size), ⟨ps, h1, (hb.block _ (Array.getElem?_eq_some_iff.1 h2).1).trans h2⟩, (hb.block _ (Array.getElem?_eq_some_iff.1 h.xr).1).trans h.xr, (hb.block _ (Array.getElem?_eq_some_iff.1 h.fr).1).trans h.fr⟩

theorem FnAt.xc {w W : World} {v : Value} {a b c d e : Value} {F : Cform} {pb xb fb : Nat} (h : FnAt w v #[a, b, c, d, e] F pb xb fb W) : W.cell? ⟨xb, 0, none⟩ = some a ∧ W.cell? ⟨xb, 1, none⟩ = some b ∧ W.cell? ⟨xb, 2, none⟩ = some c ∧ W.cell? ⟨xb, 3, none⟩ = some d ∧ W.cell? ⟨xb, 4, none⟩ = some e :=
  ⟨cell_of_row W xb 0 _ _ _ h.xr, cell_of_row W xb 1 _ _ _ h.xr, cell_of_row W xb 2 _ _ _ h.xr, cell_of_row W xb 3 _ _ _ h.xr, cell_of_row W xb 4 _ _ _ h.xr⟩
theorem FnAt.pc {w W : World} {a b : Value} {cs : Array Value} {F : Cform} {pb xb fb : Nat} (h : FnAt w (.agg #[a, b]) cs F pb xb fb W) : W.cell? ⟨pb, 0, none⟩ = some a ∧ W.cell? ⟨pb, 1, none⟩ = some b := by
  obtain ⟨ps, h1, h2⟩ := h.pr
  injection h1 with h1
  subst h1
  exact ⟨cell_of_row W pb 0 _ _ _ h2, cell_of_row W pb 1 _ _ _ h2⟩
theorem FnAt.fc {w W : World} {v : Value} {cs : Array Value} {F : Cform} {pb xb fb : Nat} (h : FnAt w v cs F pb xb fb W) : W.cell? ⟨fb, 0, none⟩ = some (.string ⟨⟨F.word⟩⟩) := cell_of_row W fb 0 _ _ _ h.fr
end Go.Proofs.YtdjbkppdppdcgaaGreatDoor

namespace Go.Proofs.YtdjbkppdppdcgaaGreatDoor
open Go.RowKit

theorem bldInfo : (Tryz.prog.info? 74).map (·.size) = some 2 := by kernel_rfl
theorem bldLies : liesAt Tryz.prog Tryz.prog.depth 74 (2 / Tryz.prog.cellsOf 74) 0 74 1 = true := by kernel_rfl
/-- A row of one's own where its block is as it was. -/
theorem own_keep' {W W' : World} {lo : Nat} {e : TypeId} {s n : Nat} {v : Value} {xs : List Value} (h : W.ownsRow lo e s v n xs) (hk : ∀ g, v.ownBlock = some g → W'.heap[g]? = W.heap[g]?) : W'.ownsRow lo e s v n xs := by
  refine ⟨h.1, ?_⟩
  rcases h.2 with h | ⟨g, cap, cur, rfl, hlo, hg, h1, h2, h3, h4⟩
  · exact .inl h
  · exact .inr ⟨g, cap, cur, rfl, hlo, (hk g rfl).trans hg, h1, h2, h3, h4⟩
/-- A builder of the call's own. -/
structure BdAt (w0 W : World) (b : Nat) (v : Value) (bs : List UInt8) : Prop where
  box : ∃ p, (p = .pointer none ∨ p = .pointer (some ⟨b, 0, none⟩)) ∧ W.heap[b]? = some (.cells #[p, v] 74 (0, 0))
  own : W.ownsRow w0.heap.size 5 1 v bs.length (Lib.byteCells bs)
  ne : v.ownBlock ≠ some b
  low : Below w0.heap.size w0 W
  lo : w0.heap.size ≤ b
/-- A box beside it. -/
def BxAt (W : World) (b : Nat) (v : Value) (k : Nat) (o : Obj) : Prop := W.heap[k]? = some o ∧ k ≠ b ∧ v.ownBlock ≠ some k

set_option maxRecDepth 100000 in
set_option maxHeartbeats 4000000 in
theorem copyCheck_any {w : World} {b : Nat} {p v : Value} (hp : p = .pointer none ∨ p = .pointer (some ⟨b, 0, none⟩)) (hb : w.heap[b]? = some (.cells #[p, v] 74 (0, 0))) :
    Calls Tryz.prog 64 #[.pointer (some ⟨b, 0, none⟩)] w fun e w' => e = .returned (.tuple #[]) ∧ w'.heap[b]? = some (.cells #[.pointer (some ⟨b, 0, none⟩), v] 74 (0, 0)) ∧ Foot w.heap.size (fun k => k = b) w w' := by
  have c0 := cell_of_row w b 0 _ _ _ hb
  have f0 := frozen_of_row w b 0 _ _ hb
  simp only [List.getElem?_toArray, List.getElem?_cons_zero] at c0
  have hsh : w.shape? b = some (74, 2) := by unfold World.shape?; rw [hb]; rfl
  obtain ⟨j, hj, hjs⟩ := Option.map_eq_some_iff.1 bldInfo
  have HB := Lib.hid hb
  clear hb
  rcases hp with rfl | rfl
  · have k1 : (convert 72 127 (.pointer (some ⟨b, 0, none⟩))).run Tryz.prog w = .ok (.pointer (some ⟨b, 0, none⟩)) w := Lib.run_to_unsafe w ⟨b, 0, none⟩ Tryz.underlying72 Tryz.underlying127 hj (by rw [hjs]; decide) hsh (Nat.zero_lt_succ 1)
    have k3 : (convert 127 72 (.pointer (some ⟨b, 0, none⟩))).run Tryz.prog w = .ok (.pointer (some ⟨b, 0, none⟩)) w := Lib.run_from_unsafe w ⟨b, 0, none⟩ Tryz.underlying127 Tryz.underlying72 hj hsh bldLies
    go_enter Tryz.func64, Tryz.ntmps64
    have k2 : (callFunc 91 #[.pointer (some ⟨b, 0, none⟩)]).run Tryz.prog w = .ok (.value (.pointer (some ⟨b, 0, none⟩))) w := by
      rw [run_callFunc_extern Tryz.func91 (by kernel_rfl) (by kernel_rfl) (by kernel_rfl) (e := Extern.AbiNoEscape.same) (by kernel_rfl), Lib.run_noEscape]
      rfl
    go_wp2_with fail
    go_end0
    exact ⟨rfl, heap_setCell_same _ _ 0 _ _ _ HB.out, Foot.set (g := fun k => k = b) (p := ⟨b, 0, none⟩) (Foot.refl _ _ _) (.inr rfl) _⟩
  · have k4 := Lib.run_neq_ptr_same (P := Tryz.prog) w ⟨b, 0, none⟩ Tryz.underlying72 hj
    go_enter Tryz.func64, Tryz.ntmps64
    go_wp2_with fail
    go_end0
    exact ⟨rfl, HB.out, Foot.refl _ _ _⟩

set_option maxRecDepth 100000 in
set_option maxHeartbeats 4000000 in
theorem writeString_any {w0 w : World} {b : Nat} {v : Value} {bs : List UInt8} (h : BdAt w0 w b v bs) (s : ByteArray) (hlen : bs.length + s.size ≤ 100000000) :
    Calls Tryz.prog 36 #[.pointer (some ⟨b, 0, none⟩), .string s] w fun e w' => e = .returned (.tuple #[.int .i64 s.size, .nilIface]) ∧ ∃ v', BdAt w0 w' b v' (bs ++ s.data.toList) ∧ ∀ k o, BxAt w b v k o → BxAt w' b v' k o := by
  obtain ⟨i0, hi, hz0, hz1, hz2⟩ := info_parts byteInfo
  obtain ⟨p, hp, hb⟩ := h.box
  have hblt : b < w.heap.size := (Array.getElem?_eq_some_iff.1 hb).1
  have HC := Lib.hid (copyCheck_any hp hb)
  have H := Lib.hid h
  have hsz : s.data.toList.length = s.size := by rw [Array.length_toList]; rfl
  have HSZ := Lib.hid hsz
  clear hb hp h hsz
  go_enter Tryz.func36, Tryz.ntmps36
  go_wp2_with (first
    | (go_at_call 64; refine HC.out.mono ?_; rintro e w1 ⟨rfl, hb1, hf1⟩; have c1 := cell_of_row w1 b 1 _ _ _ hb1; simp only [List.getElem?_toArray, List.getElem?_cons_zero, List.getElem?_cons_succ] at c1; have HO1 := Lib.hid (own_keep' H.out.own (fun g hg => hf1.block g (H.out.own.lt g hg).2 (fun e => H.out.ne (by rw [hg, e])))); have HB1 := Lib.hid hb1; have hs1 := hf1.size; have hlow := H.out.low.size; have HF1 := Lib.hid hf1; clear hb1 hf1)
    | (at_builtin; refine wpList_append_str _ rfl _ _ 69 9 rfl w0.heap.size 5 i0 Tryz.underlying69 Tryz.underlying9 hi hz0 hz1 hz2 v bs.length (Lib.byteCells bs) rfl HO1.out s rfl (by unfold maxLen; omega) (by omega) (by omega) ?_; intro v2 w2 ho2 hg2 hn2; obtain ⟨A2, k2, rfl, _, _⟩ := row_form ho2; have hb2 := (hg2.block b (by omega) (fun e => H.out.ne e.symm)).trans HB1.out; have d1 := cell_of_row w2 b 1 _ _ _ hb2; have f1 := frozen_of_row w2 b 1 _ _ hb2; simp only [List.getElem?_toArray, List.getElem?_cons_zero, List.getElem?_cons_succ] at d1))
  go_ret2
  have hset : ∀ k, k ≠ b → (w2.setCell ⟨b, 1, none⟩ (.slice A2 (bs.length + s.size) k2)).heap[k]? = w2.heap[k]? := fun k hk => Below.heap_setCell w2 _ _ _ hk
  have hne2 : ∀ g, (Value.slice A2 (bs.length + s.size) k2).ownBlock = some g → g ≠ b := fun g hg e => by
    rcases hn2 g hg with h | h
    · exact H.out.ne (by rw [h, e])
    · omega
  refine ⟨rfl, .slice A2 (bs.length + s.size) k2, ⟨⟨_, .inr rfl, heap_setCell_same _ _ 1 _ _ _ hb2⟩, ?_, fun e => hne2 b e rfl, ?_, H.out.lo⟩, fun k o hx => ?_⟩
  · have e1 : (bs ++ s.data.toList).length = bs.length + s.size := by rw [List.length_append, HSZ.out]
    have e2 : Lib.byteCells (bs ++ s.data.toList) = Lib.byteCells bs ++ Lib.strCells s := by simp [Lib.byteCells, Lib.strCells]
    rw [e1, e2]
    exact own_keep' ho2 fun g hg => hset g (hne2 g hg)
  · have hf := HF1.out
    refine ⟨hg2.os.trans (hf.os.trans H.out.low.os), hg2.tape.trans (hf.tape.trans H.out.low.tape), hg2.output.trans (hf.output.trans H.out.low.output), by have := hg2.size; rw [World.size_setCell]; omega, fun k hk => ?_⟩
    have hlo := H.out.lo
    refine (hset k (by omega)).trans ((hg2.block k (by omega) (fun e => ?_)).trans ((hf.block k (by omega) (by omega)).trans (H.out.low.block k hk)))
    have := (H.out.own.lt k e.symm).1
    omega
  · have hkl := (Array.getElem?_eq_some_iff.1 hx.1).1
    refine ⟨(hset k hx.2.1).trans ((hg2.block k (by omega) (fun e => hx.2.2 e.symm)).trans ((HF1.out.block k hkl hx.2.1).trans hx.1)), hx.2.1, fun e => ?_⟩
    rcases hn2 k e with h | h
    · exact hx.2.2 h
    · omega
end Go.Proofs.YtdjbkppdppdcgaaGreatDoor
