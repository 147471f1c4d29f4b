/- code.says where nothing may stand, code.fine. code.text; the bytes that Encode lays down, with the boxes beside them. code.headed$1, slices.IndexFunc and ContainsFunc of ints over it. -/
import Derived.Laws.IdiomStrings
import Derived.Test.YtdjbkppdppdcgaaGreatDoorMCwU
import Derived.Test.YtdjbkppdppdcgaaGreatDoorMCwG
import Derived.Test.YtdjbkppdppdcgaaGreatDoorMCwB
import Derived.Test.YtdjbkppdppdcgaaGreatDoorMCwX
import Derived.Test.YtdjbkppdppdcgaaGreatDoorCyC
namespace Go.Proofs.YtdjbkppdppdcgaaGreatDoor
open Go.RowKit

/-- What says answers. -/
def SaysOk (x : Ci) : Prop := ∀ w, Gc w → Calls Tryz.prog 58 #[insV x] w fun e w' => e = .returned (.bool (saysB x)) ∧ Below w.heap.size w w'
attribute [local go_sem] fieldFm2
theorem says_zero {x : Ci} (h : (formOf x.op).text = 0) : saysB x = x.text.data.toList.isEmpty := by
  unfold saysB
  simp only [h]
set_option maxRecDepth 100000 in
set_option maxHeartbeats 4000000 in
theorem says_plain (x : Ci) (h : (formOf x.op).text = 0) : SaysOk x := by
  intro w _
  have HF := Lib.hid (forms_call x.op)
  have HS := Lib.hid (says_zero h)
  obtain ⟨F, hF⟩ : ∃ F, formOf x.op = F := ⟨_, rfl⟩
  rw [hF] at HF h
  rw [h] at HF
  obtain ⟨R, HR⟩ : ∃ R, Hid (saysB x = R) := ⟨_, rfl⟩
  rw [HR.out] at HS ⊢
  simp only [insV]
  clear hF h
  go_enter Tryz.func58, Tryz.ntmps58
  go_wp2_with (go_at_call 39; refine (HF.out _).mono ?_; rintro e w4 ⟨rfl, hb4⟩; have hx := (hb4.block w.heap.size (by simp)).trans (heap_alloc_new w _); have z3 := cell_of_row w4 _ 3 _ _ _ hx; simp only [List.getElem?_toArray, List.getElem?_cons_zero, List.getElem?_cons_succ] at z3; have HB := Lib.hid (((Below.refl w.heap.size w).alloc (Nat.le_refl _) (.cells #[.int .i64 x.op, .int .i64 x.a, .int .i64 x.b, .string x.text, .int .i64 x.at_] 46 (0, 0))).trans (hb4.mono (by simp))); clear hx hb4)
  go_ret
  refine ⟨ret_bool ?_, HB.out⟩
  rw [HS.out, ByteArray.toList_eq]

theorem LiesC.more {w : World} {B B' : Nat} {p : Cp} {v : Value} (h : LiesC w B p v) (hB : B ≤ B') : LiesC w B' p v := by
  obtain ⟨fa, fc, ga, gc, xs, h1, h2, h3, h4, h5, h6, h7⟩ := h
  exact ⟨fa, fc, ga, gc, xs, h1, h2, h3.more hB, h4.more hB, h5, h6, fun x hx => ⟨(h7 x hx).1.more hB, (h7 x hx).2.1.more hB, (h7 x hx).2.2⟩⟩
/-- Within fine: the boxes of the program, the instruction, the form. -/
structure FnAt (w : World) (v : Value) (cs : Array Value) (F : Cform) (pb xb fb : Nat) (W : World) : Prop where
  low : Below w.heap.size w W
  pr : ∃ ps, v = .agg ps ∧ W.heap[pb]? = some (.cells ps 25 (0, 0))
  xr : W.heap[xb]? = some (.cells cs 46 (0, 0))
  fr : W.heap[fb]? = some (.cells #[.string ⟨⟨F.word⟩⟩, .int .i64 F.a, .int .i64 F.text, .string ⟨⟨F.takes⟩⟩, .string ⟨⟨F.lays⟩⟩] 80 (0, 0))
theorem FnAt.under {w W W' : World} {v : Value} {cs : Array Value} {F : Cform} {pb xb fb : Nat} (h : FnAt w v cs F pb xb fb W) (hb : Below W.heap.size W W') : FnAt w v cs F pb xb fb W' := by
  obtain ⟨ps, h1, h2⟩ := h.pr
  exact ⟨h.low.trans (hb.mono h.low.size), ⟨ps, h1, (hb.block _ (Array.getElem?_eq_some_iff.1 h2).1).trans h2⟩, (hb.block _ (Array.getElem?_eq_some_iff.1 h.xr).1).trans h.xr, (hb.block _ (Array.getElem?_eq_some_iff.1 h.fr).1).trans h.fr⟩

theorem FnAt.xc {w W : World} {v : Value} {a b c d e : Value} {F : Cform} {pb xb fb : Nat} (h : FnAt w v #[a, b, c, d, e] F pb xb fb W) : W.cell? ⟨xb, 0, none⟩ = some a ∧ W.cell? ⟨xb, 1, none⟩ = some b ∧ W.cell? ⟨xb, 2, none⟩ = some c ∧ W.cell? ⟨xb, 3, none⟩ = some d ∧ W.cell? ⟨xb, 4, none⟩ = some e :=
  ⟨cell_of_row W xb 0 _ _ _ h.xr, cell_of_row W xb 1 _ _ _ h.xr, cell_of_row W xb 2 _ _ _ h.xr, cell_of_row W xb 3 _ _ _ h.xr, cell_of_row W xb 4 _ _ _ h.xr⟩
theorem FnAt.pc {w W : World} {a b : Value} {cs : Array Value} {F : Cform} {pb xb fb : Nat} (h : FnAt w (.agg #[a, b]) cs F pb xb fb W) : W.cell? ⟨pb, 0, none⟩ = some a ∧ W.cell? ⟨pb, 1, none⟩ = some b := by
  obtain ⟨ps, h1, h2⟩ := h.pr
  injection h1 with h1
  subst h1
  exact ⟨cell_of_row W pb 0 _ _ _ h2, cell_of_row W pb 1 _ _ _ h2⟩
theorem FnAt.fc {w W : World} {v : Value} {cs : Array Value} {F : Cform} {pb xb fb : Nat} (h : FnAt w v cs F pb xb fb W) : W.cell? ⟨fb, 0, none⟩ = some (.string ⟨⟨F.word⟩⟩) := cell_of_row W fb 0 _ _ _ h.fr
end Go.Proofs.YtdjbkppdppdcgaaGreatDoor

namespace Go.Proofs.YtdjbkppdppdcgaaGreatDoor
open Go.RowKit

theorem own_foot {w w2 : World} {v : Value} (hg : w.grownBy w2 v.ownBlock) :
    Foot w.heap.size (fun k => v.ownBlock = some k) w w2 :=
  ⟨hg.os, hg.tape, hg.output, hg.size, fun k hk hn => hg.block k hk (fun e => hn e.symm)⟩
/-- numbers of a row just built. -/
theorem numbers_lit {w : World} {lo : Nat} {v : Value} {bs : List UInt8} (h : w.ownsRow lo 5 1 v bs.length (Lib.byteCells bs)) (hlo : lo ≤ w.heap.size) (l : List Int) {cs : List Value} (hcs : cs = l.map (Value.int .i64)) {n : Nat} (hn : n = l.length) (hok : ∀ n ∈ l, okI n) (hlen : bs.length + 11 * n ≤ 100000000) :
    Calls Tryz.prog 34 #[v, .slice (some ⟨w.heap.size, 0, none⟩) n n] (w.alloc (.cells cs.toArray 3 (0, 0))) (BytesPost w lo v (bs ++ l.flatMap numB)) := by
  subst hn
  have hlt := h.lt
  refine (numbers_any (w := w.alloc (.cells cs.toArray 3 (0, 0))) (l := l) (A := some ⟨w.heap.size, 0, none⟩) (cap := l.length) (h.alloc _) (by simp; omega) (fun g hg => by have := (hlt g hg).2; simp; omega)
      (by
        refine .inr ⟨w.heap.size, 0, rfl, by simp, fun j v hj => ?_⟩
        have e := cell_of_row (w.alloc (.cells cs.toArray 3 (0, 0))) w.heap.size j _ _ _ (heap_alloc_new w _)
        rw [Nat.zero_add, e, List.getElem?_toArray, hcs, hj])
      (fun a ha => by
        obtain rfl := Option.some.inj ha
        intro e
        have := (hlt _ e).2
        simp at this) hok (by omega)).mono ?_
  rintro e w1 ⟨v1, he, ho1, hf1, hb1⟩
  refine ⟨v1, he, ho1, ?_, fun b hb => ?_⟩
  · exact ⟨hf1.os, hf1.tape, hf1.output, by have := hf1.size; rw [World.size_alloc] at this; omega, fun k hk hn => (hf1.block k (by rw [World.size_alloc]; omega) hn).trans (heap_alloc_old _ _ hk)⟩
  · rcases hb1 b hb with h | h
    · exact .inl h
    · rw [World.size_alloc] at h; exact .inr (by omega)

section
variable {P : Program} (w : World)
/-- 'append(b, s...)': where what comes out lies. -/
theorem run_append_str_at (base : Nat) (t u ty e : TypeId) (i : TypeInfo) (ht : P.underlying t = some (.slice e)) (hu : P.underlying u = some .string) (hi : P.info? e = some i) (hz : i.zero = some (.int .u8 0))
    (hsize : i.size = 1) (hby : i.bytes = 1) (v : Value) (n : Nat) (xs : List Value) (hown : w.ownsRow base e 1 v n xs) (s : ByteArray)
    (h63 : n + s.size ≤ maxLen) (hbytes : n + s.size ≤ 140737488355328) : ∃ v' w', (Builtin.append_ #[t, u] ty #[v, .string s]).run P w = .ok v' w' ∧ ∀ b, v'.ownBlock = some b → v.ownBlock = some b ∨ w.heap.size ≤ b := by
  have hsmall : n + s.size ≤ 9223372036854775807 := by simp only [maxLen] at h63; omega
  have hxl : xs.length = n := by simpa using hown.1
  rcases hown.2 with ⟨rfl, rfl⟩ | ⟨g, cap, cur, rfl, hbg, hg, hnc, hcm, hcs, htake⟩
  · have hx : xs = [] := List.eq_nil_of_length_eq_zero hxl
    subst hx
    by_cases hm : s.size = 0
    · have hn : Lib.strCells s = [] := List.eq_nil_of_length_eq_zero (by rw [Lib.strCells_length]; exact hm)
      have hf := Lib.run_firstCells_string (P := P) w 1 s
      rw [hm] at hf
      exact ⟨.slice none 0 0, w, by simp [Builtin.append_, run_underlying ht, run_underlying hu, sizeOf, typeInfo, hi, hsize, Builtin.lenOf, hm, hf], fun b hb => by simp [Value.ownBlock] at hb⟩
    · refine ⟨_, _, run_append_nil_string (P := P) w t u ty e i (.int .u8 0) ht hu hi hz s (by omega) (by omega) (by rw [hby]; omega), fun b hb => ?_⟩
      simp only [Value.ownBlock, Option.some.injEq] at hb
      exact .inr (by omega)
  · by_cases hroom : n + s.size ≤ cap
    · have hcs' : cur.size = cap := by simpa using hcs
      exact ⟨_, _, Lib.run_append_room_string (P := P) w t u ty e i ht hu hi hsize g n cap cur hg s hroom (by omega), fun b hb => .inl hb⟩
    · have holds : ∀ j u, xs[j]? = some u → w.cell? ((⟨g, 0, none⟩ : Addr).add j) = some u := hown.cells (g := g) rfl
      refine ⟨_, _, Lib.run_append_grow_string (P := P) w t u ty e i (.int .u8 0) ht hu hi hz ⟨g, 0, none⟩ n cap xs (by rw [hsize]; simpa using hxl) holds s (by omega) (by omega) (by rw [hby]; exact growslice_fits (by omega) (by omega)), fun b hb => ?_⟩
      simp only [Value.ownBlock, Option.some.injEq] at hb
      exact .inr (by omega)
theorem wpList_append_str {ops : Array Oper} {rest : List Oper} {o : Oper} {a : Act} {Q : Exit → Act → World → Prop} (hgd : o.guard = none) (sl x : Operand) (t u : TypeId)
    (ho : o.op = .call { callee := .builtin .append, args := #[sl, x], argTypes := #[t, u] })
    (base : Nat) (e : TypeId) (i : TypeInfo) (ht : P.underlying t = some (.slice e)) (hu : P.underlying u = some .string) (hi : P.info? e = some i) (hz : i.zero = some (.int .u8 0))
    (hsize : i.size = 1) (hby : i.bytes = 1)
    (v : Value) (n : Nat) (xs : List Value) (hs : a.eval sl = v) (hown : w.ownsRow base e 1 v n xs) (s : ByteArray) (hx : a.eval x = .string s)
    (h63 : n + s.size ≤ maxLen) (hbytes : n + s.size ≤ 140737488355328) (hbase : base ≤ w.heap.size)
    (h : ∀ v' w', w'.ownsRow base e 1 v' (n + s.size) (xs ++ Lib.strCells s) → w.grownBy w' v.ownBlock → (∀ b, v'.ownBlock = some b → v.ownBlock = some b ∨ w.heap.size ≤ b) → wpList P ops Q rest (a.put o.dst v') w') : wpList P ops Q (o :: rest) a w := by
  refine wpList_plain hgd fun K hK => ?_
  obtain ⟨v', w', hr, h2, h3, h4⟩ := Lib.run_append_own_string (P := P) w base t u o.type e i ht hu hi hz hsize hby v n xs hown s h63 hbytes hbase
  obtain ⟨v2, w2, hr2, h5⟩ := run_append_str_at (P := P) w base t u o.type e i ht hu hi hz hsize hby v n xs hown s h63 hbytes
  have e1 := hr.symm.trans hr2
  injection e1 with e1 e2
  subst e1
  unfold Oper.wp execOp
  simp only [ho, resolve, invoke, builtin, Sem.run_bind, Sem.run_pure, Result.andThen_ok, List.map_toArray, List.map_cons, List.map_nil, hs, hx, hr]
  exact hK _ _ (h v' w' h2 h3 h5)
end

set_option maxRecDepth 100000 in
set_option maxHeartbeats 4000000 in
theorem text_any {w : World} {lo : Nat} {v : Value} {bs : List UInt8} (h : w.ownsRow lo 5 1 v bs.length (Lib.byteCells bs)) (hlo : lo ≤ w.heap.size) (s : ByteArray) (hlen : bs.length + s.size ≤ 90000000) :
    Calls Tryz.prog 35 #[v, .string s] w (BytesPost w lo v (bs ++ textB s.data.toList)) := by
  obtain ⟨i0, hi, hz0, hz1, hz2⟩ := info_parts byteInfo
  obtain ⟨A0, c0, rfl, hc1, hc2⟩ := row_form h
  have hsz : s.data.toList.length = s.size := by rw [Array.length_toList]; rfl
  have hnl : (numB (s.size : Int)).length ≤ 11 := by unfold numB; exact numU_len 10 _
  have HSZ := Lib.hid hsz
  have HN := Lib.hid (numbers_lit h hlo [(s.size : Int)] rfl rfl (fun n hn => by rw [List.mem_singleton.1 hn]; exact ⟨by omega, by omega⟩) (by simp; omega))
  clear h hsz
  go_enter Tryz.func35, Tryz.ntmps35
  go_wp2_with (first
    | (go_at_call 34; refine HN.out.mono ?_; rintro e w1 ⟨v1, rfl, ho1, hf1, hb1⟩; have HO1 := Lib.hid ho1; clear ho1; have hl1 : (bs ++ [(s.size : Int)].flatMap numB).length ≤ bs.length + 11 := by simp; exact hnl)
    | (at_builtin; refine wpList_append_str _ rfl _ _ 69 9 rfl lo 5 i0 Tryz.underlying69 Tryz.underlying9 hi hz0 hz1 hz2 _ _ _ rfl HO1.out s rfl (by unfold maxLen; omega) (by omega) (by have := hf1.size; omega) ?_; intro v2 w2 ho2 hg2 hn2))
  go_ret
  refine ⟨v2, rfl, ?_, bytes_step hf1 hb1 (own_foot hg2), bytes_far hf1.size hb1 hn2⟩
  have hlen2 : (bs ++ textB s.data.toList).length = (bs ++ [(s.size : Int)].flatMap numB).length + s.size := by
    simp [textB, HSZ.out]; omega
  rw [hlen2, show bs ++ textB s.data.toList = (bs ++ [(s.size : Int)].flatMap numB) ++ s.data.toList by simp [textB, HSZ.out], Lib.byteCells, List.map_append]
  exact ho2

/-- The bytes so far, all in memory younger than w0. -/
structure EncAt (w0 W : World) (v : Value) (bs : List UInt8) : Prop where
  own : W.ownsRow w0.heap.size 5 1 v bs.length (Lib.byteCells bs)
  low : Below w0.heap.size w0 W
/-- A box beside them. -/
def Box (W : World) (v : Value) (b : Nat) (o : Obj) : Prop := W.heap[b]? = some o ∧ v.ownBlock ≠ some b
theorem Box.lt {W : World} {v : Value} {b : Nat} {o : Obj} (h : Box W v b o) : b < W.heap.size := (Array.getElem?_eq_some_iff.1 h.1).1
theorem EncAt.post {w0 W W' : World} {v : Value} {bs bs' : List UInt8} {e : Ending} (h : EncAt w0 W v bs) (hp : BytesPost W w0.heap.size v bs' e W') :
    ∃ v', e = .returned v' ∧ EncAt w0 W' v' bs' ∧ ∀ b o, Box W v b o → Box W' v' b o := by
  obtain ⟨v', he, ho, hf, hb⟩ := hp
  refine ⟨v', he, ⟨ho, ⟨hf.os.trans h.low.os, hf.tape.trans h.low.tape, hf.output.trans h.low.output, Nat.le_trans h.low.size hf.size, fun k hk => (hf.block k (Nat.lt_of_lt_of_le hk h.low.size) fun e => ?_).trans (h.low.block k hk)⟩⟩, fun b o hx => ⟨(hf.block b hx.lt hx.2).trans hx.1, fun e => ?_⟩⟩
  · have := (h.own.lt _ e).1; omega
  · rcases hb b e with h1 | h1
    · exact hx.2 h1
    · have := hx.lt; omega
theorem EncAt.alloc {w0 W : World} {v : Value} {bs : List UInt8} (h : EncAt w0 W v bs) (o : Obj) : EncAt w0 (W.alloc o) v bs := ⟨h.own.alloc _, h.low.alloc h.low.size _⟩
theorem EncAt.drew {w0 W : World} {v : Value} {bs : List UInt8} (h : EncAt w0 W v bs) : EncAt w0 W.drew v bs := ⟨h.own, ⟨h.low.os, h.low.tape, h.low.output, h.low.size, h.low.block⟩⟩
theorem Box.drew {W : World} {v : Value} {b : Nat} {o : Obj} (h : Box W v b o) : Box W.drew v b o := h
theorem Box.alloc {W : World} {v : Value} {b : Nat} {o : Obj} (h : Box W v b o) (x : Obj) : Box (W.alloc x) v b o := ⟨(heap_alloc_old _ _ h.lt).trans h.1, h.2⟩
theorem EncAt.box {w0 W : World} {v : Value} {bs : List UInt8} (h : EncAt w0 W v bs) (o : Obj) : Box (W.alloc o) v W.heap.size o := ⟨heap_alloc_new _ _, fun e => by have := (h.own.lt _ e).2; omega⟩
end Go.Proofs.YtdjbkppdppdcgaaGreatDoor

namespace Go.Proofs.YtdjbkppdppdcgaaGreatDoor
open Go.RowKit

def outB (slots : Int) (n : Nat) (t : Int) : Bool := decide (slots ≤ t) || decide (t < -(n : Int))
set_option maxRecDepth 100000 in
set_option maxHeartbeats 4000000 in
theorem headed1_any {w : World} {b n cap : Nat} {ta : Option Addr} {slots t : Int} (h2 : w.cell? ⟨b, 2, none⟩ = some (.int .i64 slots)) (h3 : w.cell? ⟨b, 3, none⟩ = some (.slice ta n cap)) (hn : n ≤ 140737488351232) :
    Calls Tryz.prog 56 #[.int .i64 t, .pointer (some ⟨b, 0, none⟩)] w fun e w' => e = .returned (.bool (outB slots n t)) ∧ w' = w := by
  have HF : Hid (outB slots n t = (decide (slots ≤ t) || decide (t < -(n : Int)))) := rfl
  go_enter Tryz.func56, Tryz.ntmps56
  cases d1 : decide (slots ≤ t) with
  | true =>
    rw [d1] at HF
    go_wp2_with fail
    go_ret
    exact ⟨ret_bool (by rw [HF.out]; rfl), rfl⟩
  | false =>
    rw [d1] at HF
    go_wp2_with fail
    go_ret
    exact ⟨ret_bool (by rw [HF.out]; rfl), rfl⟩

set_option maxRecDepth 100000 in
set_option maxHeartbeats 4000000 in
theorem indexTaken_any {w : World} {b n cap c : Nat} {ta A : Option Addr} {slots : Int} {l : List Int} (h2 : w.cell? ⟨b, 2, none⟩ = some (.int .i64 slots)) (h3 : w.cell? ⟨b, 3, none⟩ = some (.slice ta n cap)) (hn : n ≤ 140737488351232)
    (hrow : RowIs w w.heap.size A (l.map (Value.int .i64))) (hl : l.length ≤ 140737488351232) :
    Calls Tryz.prog 80 #[.slice A l.length c, .func (.func 56) #[] #[.pointer (some ⟨b, 0, none⟩)]] w fun e w' => ∃ r : Int, e = .returned (.int .i64 r) ∧ decide (0 ≤ r) = l.any (outB slots n) ∧ w' = w := by
  have hcall : ∀ (v u : Value) (w' : World), (callFunc 56 #[v, u]).run Tryz.prog w' = .ok (.enter 56 #[v, u]) w' := fun v u w' => enters_of Tryz.func56 (by kernel_rfl) rfl _ _
  have HR := Lib.hid hrow
  obtain ⟨m, hm⟩ : ∃ m, l.length = m := ⟨_, rfl⟩
  have HL := Lib.hid hm
  have HC : Hid (∀ t, Calls Tryz.prog 56 #[.int .i64 t, .pointer (some ⟨b, 0, none⟩)] w fun e w' => e = .returned (.bool (outB slots n t)) ∧ w' = w) := Lib.hid fun t => headed1_any h2 h3 hn
  rw [hm] at hl ⊢
  clear hrow h2 h3 hm
  go_enter Tryz.func80, Tryz.ntmps80
  go_wp2_with fail
  go_loopw [8] (fun i wr => wr = w ∧ ∃ j : Nat, j ≤ m ∧ i = .int .i64 j ∧ Hid ((l.drop j).any (outB slots n) = l.any (outB slots n))) (fun i _ => m - (intOf i).toNat)
  case atStart => exact ⟨rfl, 0, Nat.zero_le _, rfl, Lib.hid rfl⟩
  case round =>
    obtain ⟨rfl, j, hj, rfl, HI⟩ := hrel
    by_cases hlt : j < m
    · obtain ⟨g, o, rfl, hg, hc⟩ := HR.out.at (by rw [List.length_map, HL.out]; omega)
      obtain ⟨x, hx⟩ : ∃ x, l[j]? = some x := ⟨_, List.getElem?_eq_getElem (by rw [HL.out]; exact hlt)⟩
      have hcell := hc j (.int .i64 x) (by rw [List.getElem?_map, hx]; rfl)
      have HD : Hid (l.drop j = x :: l.drop (j + 1)) := Lib.hid (drop_cons hx)
      clear hc hx
      cases hb : outB slots n x with
      | true =>
        go_wp2_with (go_at_call 56; refine (HC.out x).mono ?_; rw [hb]; rintro e w' ⟨rfl, rfl⟩)
        go_ret
        refine ⟨(j : Int), rfl, ?_, rfl⟩
        rw [← HI.out, HD.out, List.any_cons, hb]
        simp
      | false =>
        go_wp2_with (go_at_call 56; refine (HC.out x).mono ?_; rw [hb]; rintro e w' ⟨rfl, rfl⟩)
        go_roundw
        case rel =>
          refine ⟨by trivial, j + 1, by omega, by go_num, Lib.hid ?_⟩
          rw [← HI.out, HD.out, List.any_cons, hb, Bool.false_or]
        case measure => simp [intOf]; omega
    · obtain rfl : j = m := by omega
      go_wp2_with fail
      go_ret
      refine ⟨-1, rfl, ?_, rfl⟩
      rw [← HI.out, List.drop_of_length_le (by rw [HL.out]; exact Nat.le_refl _)]
      rfl
set_option maxRecDepth 100000 in
theorem containsTaken_any {w : World} {b n cap c : Nat} {ta A : Option Addr} {slots : Int} {l : List Int} (h2 : w.cell? ⟨b, 2, none⟩ = some (.int .i64 slots)) (h3 : w.cell? ⟨b, 3, none⟩ = some (.slice ta n cap)) (hn : n ≤ 140737488351232)
    (hrow : RowIs w w.heap.size A (l.map (Value.int .i64))) (hl : l.length ≤ 140737488351232) :
    Calls Tryz.prog 55 #[.slice A l.length c, .func (.func 56) #[] #[.pointer (some ⟨b, 0, none⟩)]] w fun e w' => e = .returned (.bool (l.any (outB slots n))) ∧ w' = w := by
  have HC := Lib.hid (indexTaken_any (c := c) h2 h3 hn hrow hl)
  clear h2 h3 hrow
  go_enter Tryz.func55, Tryz.ntmps55
  go_wp2_with (go_at_call 80; refine HC.out.mono ?_; rintro e w' ⟨r, rfl, hr, rfl⟩)
  go_ret
  first
    | exact ⟨ret_bool hr, rfl⟩
    | exact ⟨rfl, rfl⟩
end Go.Proofs.YtdjbkppdppdcgaaGreatDoor
