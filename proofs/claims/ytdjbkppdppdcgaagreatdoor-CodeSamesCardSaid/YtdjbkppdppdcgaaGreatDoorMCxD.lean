/- code.text; the bytes that Encode lays down, with the boxes beside them. (*reader).function. -/
import Derived.Laws.IdiomStrings
import Derived.Deep.AppendLies
import Derived.Test.YtdjbkppdppdcgaaGreatDoorMCwB
import Derived.Test.YtdjbkppdppdcgaaGreatDoorCwS
import Derived.Test.YtdjbkppdppdcgaaGreatDoorCwP
namespace Go.Proofs.YtdjbkppdppdcgaaGreatDoor
open Go.RowKit

theorem own_foot {w w2 : World} {v : Value} (hg : w.grownBy w2 v.ownBlock) :
    Foot w.heap.size (fun k => v.ownBlock = some k) w w2 :=
  ⟨hg.os, hg.tape, hg.output, hg.size, fun k hk hn => hg.block k hk (fun e => hn e.symm)⟩
/-- numbers of a row just built. -/
theorem numbers_lit {w : World} {lo : Nat} {v : Value} {bs : List UInt8} (h : w.ownsRow lo 5 1 v bs.length (Lib.byteCells bs)) (hlo : lo ≤ w.heap.size) (l : List Int) {cs : List Value} (hcs : cs = l.map (Value.int .i64)) {n : Nat} (hn : n = l.length) (hok : ∀ n ∈ l, okI n) (hlen : bs.length + 11 * n ≤ 100000000) :
    Calls Tryz.prog 34 #[v, .slice (some ⟨w.heap.size, 0, none⟩) n n] (w.alloc (.cells cs.toArray 3 (0, 0))) (BytesPost w lo v (bs ++ l.flatMap numB)) := by
  subst hn
  have hlt := h.lt
  refine (numbers_any (w := w.alloc (.cells cs.toArray 3 (0, 0))) (l := l) (A := some ⟨w.heap.size, 0, none⟩) (cap := l.length) (h.alloc _) (by simp; omega) (fun g hg => by have := (hlt g hg).2; simp; omega)
      (by
        refine .inr ⟨w.heap.size, 0, rfl, by simp, fun j v hj => ?_⟩
        have e := cell_of_row (w.alloc (.cells cs.toArray 3 (0, 0))) w.heap.size j _ _ _ (heap_alloc_new w _)
        rw [Nat.zero_add, e, List.getElem?_toArray, hcs, hj])
      (fun a ha => by
        obtain rfl := Option.some.inj ha
        intro e
        have := (hlt _ e).2
        simp at this) hok (by omega)).mono ?_
  rintro e w1 ⟨v1, he, ho1, hf1, hb1⟩
  refine ⟨v1, he, ho1, ?_, fun b hb => ?_⟩
  · exact ⟨hf1.os, hf1.tape, hf1.output, by have := hf1.size; rw [World.size_alloc] at this; omega, fun k hk hn => (hf1.block k (by rw [World.size_alloc]; omega) hn).trans (heap_alloc_old _ _ hk)⟩
  · rcases hb1 b hb with h | h
    · exact .inl h
    · rw [World.size_alloc] at h; exact .inr (by omega)

section
variable {P : Program} (w : World)
/-- 'append(b, s...)': where what comes out lies. -/
theorem run_append_str_at (base : Nat) (t u ty e : TypeId) (i : TypeInfo) (ht : P.underlying t = some (.slice e)) (hu : P.underlying u = some .string) (hi : P.info? e = some i) (hz : i.zero = some (.int .u8 0))
    (hsize : i.size = 1) (hby : i.bytes = 1) (v : Value) (n : Nat) (xs : List Value) (hown : w.ownsRow base e 1 v n xs) (s : ByteArray)
    (h63 : n + s.size ≤ maxLen) (hbytes : n + s.size ≤ 140737488355328) : ∃ v' w', (Builtin.append_ #[t, u] ty #[v, .string s]).run P w = .ok v' w' ∧ ∀ b, v'.ownBlock = some b → v.ownBlock = some b ∨ w.heap.size ≤ b := by
  have hsmall : n + s.size ≤ 9223372036854775807 := by simp only [maxLen] at h63; omega
  have hxl : xs.length = n := by simpa using hown.1
  rcases hown.2 with ⟨rfl, rfl⟩ | ⟨g, cap, cur, rfl, hbg, hg, hnc, hcm, hcs, htake⟩
  · have hx : xs = [] := List.eq_nil_of_length_eq_zero hxl
    subst hx
    by_cases hm : s.size = 0
    · have hn : Lib.strCells s = [] := List.eq_nil_of_length_eq_zero (by rw [Lib.strCells_length]; exact hm)
      have hf := Lib.run_firstCells_string (P := P) w 1 s
      rw [hm] at hf
      exact ⟨.slice none 0 0, w, by simp [Builtin.append_, run_underlying ht, run_underlying hu, sizeOf, typeInfo, hi, hsize, Builtin.lenOf, hm, hf], fun b hb => by simp [Value.ownBlock] at hb⟩
    · refine ⟨_, _, run_append_nil_string (P := P) w t u ty e i (.int .u8 0) ht hu hi hz s (by omega) (by omega) (by rw [hby]; omega), fun b hb => ?_⟩
      simp only [Value.ownBlock, Option.some.injEq] at hb
      exact .inr (by omega)
  · by_cases hroom : n + s.size ≤ cap
    · have hcs' : cur.size = cap := by simpa using hcs
      exact ⟨_, _, Lib.run_append_room_string (P := P) w t u ty e i ht hu hi hsize g n cap cur hg s hroom (by omega), fun b hb => .inl hb⟩
    · have holds : ∀ j u, xs[j]? = some u → w.cell? ((⟨g, 0, none⟩ : Addr).add j) = some u := hown.cells (g := g) rfl
      refine ⟨_, _, Lib.run_append_grow_string (P := P) w t u ty e i (.int .u8 0) ht hu hi hz ⟨g, 0, none⟩ n cap xs (by rw [hsize]; simpa using hxl) holds s (by omega) (by omega) (by rw [hby]; exact growslice_fits (by omega) (by omega)), fun b hb => ?_⟩
      simp only [Value.ownBlock, Option.some.injEq] at hb
      exact .inr (by omega)
theorem wpList_append_str {ops : Array Oper} {rest : List Oper} {o : Oper} {a : Act} {Q : Exit → Act → World → Prop} (hgd : o.guard = none) (sl x : Operand) (t u : TypeId)
    (ho : o.op = .call { callee := .builtin .append, args := #[sl, x], argTypes := #[t, u] })
    (base : Nat) (e : TypeId) (i : TypeInfo) (ht : P.underlying t = some (.slice e)) (hu : P.underlying u = some .string) (hi : P.info? e = some i) (hz : i.zero = some (.int .u8 0))
    (hsize : i.size = 1) (hby : i.bytes = 1)
    (v : Value) (n : Nat) (xs : List Value) (hs : a.eval sl = v) (hown : w.ownsRow base e 1 v n xs) (s : ByteArray) (hx : a.eval x = .string s)
    (h63 : n + s.size ≤ maxLen) (hbytes : n + s.size ≤ 140737488355328) (hbase : base ≤ w.heap.size)
    (h : ∀ v' w', w'.ownsRow base e 1 v' (n + s.size) (xs ++ Lib.strCells s) → w.grownBy w' v.ownBlock → (∀ b, v'.ownBlock = some b → v.ownBlock = some b ∨ w.heap.size ≤ b) → wpList P ops Q rest (a.put o.dst v') w') : wpList P ops Q (o :: rest) a w := by
  refine wpList_plain hgd fun K hK => ?_
  obtain ⟨v', w', hr, h2, h3, h4⟩ := Lib.run_append_own_string (P := P) w base t u o.type e i ht hu hi hz hsize hby v n xs hown s h63 hbytes hbase
  obtain ⟨v2, w2, hr2, h5⟩ := run_append_str_at (P := P) w base t u o.type e i ht hu hi hz hsize hby v n xs hown s h63 hbytes
  have e1 := hr.symm.trans hr2
  injection e1 with e1 e2
  subst e1
  unfold Oper.wp execOp
  simp only [ho, resolve, invoke, builtin, Sem.run_bind, Sem.run_pure, Result.andThen_ok, List.map_toArray, List.map_cons, List.map_nil, hs, hx, hr]
  exact hK _ _ (h v' w' h2 h3 h5)
end

set_option maxRecDepth 100000 in
set_option maxHeartbeats 4000000 in
theorem text_any {w : World} {lo : Nat} {v : Value} {bs : List UInt8} (h : w.ownsRow lo 5 1 v bs.length (Lib.byteCells bs)) (hlo : lo ≤ w.heap.size) (s : ByteArray) (hlen : bs.length + s.size ≤ 90000000) :
    Calls Tryz.prog 35 #[v, .string s] w (BytesPost w lo v (bs ++ textB s.data.toList)) := by
  obtain ⟨i0, hi, hz0, hz1, hz2⟩ := info_parts byteInfo
  obtain ⟨A0, c0, rfl, hc1, hc2⟩ := row_form h
  have hsz : s.data.toList.length = s.size := by rw [Array.length_toList]; rfl
  have hnl : (numB (s.size : Int)).length ≤ 11 := by unfold numB; exact numU_len 10 _
  have HSZ := Lib.hid hsz
  have HN := Lib.hid (numbers_lit h hlo [(s.size : Int)] rfl rfl (fun n hn => by rw [List.mem_singleton.1 hn]; exact ⟨by omega, by omega⟩) (by simp; omega))
  clear h hsz
  go_enter Tryz.func35, Tryz.ntmps35
  go_wp2_with (first
    | (go_at_call 34; refine HN.out.mono ?_; rintro e w1 ⟨v1, rfl, ho1, hf1, hb1⟩; have HO1 := Lib.hid ho1; clear ho1; have hl1 : (bs ++ [(s.size : Int)].flatMap numB).length ≤ bs.length + 11 := by simp; exact hnl)
    | (at_builtin; refine wpList_append_str _ rfl _ _ 69 9 rfl lo 5 i0 Tryz.underlying69 Tryz.underlying9 hi hz0 hz1 hz2 _ _ _ rfl HO1.out s rfl (by unfold maxLen; omega) (by omega) (by have := hf1.size; omega) ?_; intro v2 w2 ho2 hg2 hn2))
  go_ret
  refine ⟨v2, rfl, ?_, bytes_step hf1 hb1 (own_foot hg2), bytes_far hf1.size hb1 hn2⟩
  have hlen2 : (bs ++ textB s.data.toList).length = (bs ++ [(s.size : Int)].flatMap numB).length + s.size := by
    simp [textB, HSZ.out]; omega
  rw [hlen2, show bs ++ textB s.data.toList = (bs ++ [(s.size : Int)].flatMap numB) ++ s.data.toList by simp [textB, HSZ.out], Lib.byteCells, List.map_append]
  exact ho2

/-- The bytes so far, all in memory younger than w0. -/
structure EncAt (w0 W : World) (v : Value) (bs : List UInt8) : Prop where
  own : W.ownsRow w0.heap.size 5 1 v bs.length (Lib.byteCells bs)
  low : Below w0.heap.size w0 W
/-- A box beside them. -/
def Box (W : World) (v : Value) (b : Nat) (o : Obj) : Prop := W.heap[b]? = some o ∧ v.ownBlock ≠ some b
theorem Box.lt {W : World} {v : Value} {b : Nat} {o : Obj} (h : Box W v b o) : b < W.heap.size := (Array.getElem?_eq_some_iff.1 h.1).1
theorem EncAt.post {w0 W W' : World} {v : Value} {bs bs' : List UInt8} {e : Ending} (h : EncAt w0 W v bs) (hp : BytesPost W w0.heap.size v bs' e W') :
    ∃ v', e = .returned v' ∧ EncAt w0 W' v' bs' ∧ ∀ b o, Box W v b o → Box W' v' b o := by
  obtain ⟨v', he, ho, hf, hb⟩ := hp
  refine ⟨v', he, ⟨ho, ⟨hf.os.trans h.low.os, hf.tape.trans h.low.tape, hf.output.trans h.low.output, Nat.le_trans h.low.size hf.size, fun k hk => (hf.block k (Nat.lt_of_lt_of_le hk h.low.size) fun e => ?_).trans (h.low.block k hk)⟩⟩, fun b o hx => ⟨(hf.block b hx.lt hx.2).trans hx.1, fun e => ?_⟩⟩
  · have := (h.own.lt _ e).1; omega
  · rcases hb b e with h1 | h1
    · exact hx.2 h1
    · have := hx.lt; omega
theorem EncAt.alloc {w0 W : World} {v : Value} {bs : List UInt8} (h : EncAt w0 W v bs) (o : Obj) : EncAt w0 (W.alloc o) v bs := ⟨h.own.alloc _, h.low.alloc h.low.size _⟩
theorem EncAt.drew {w0 W : World} {v : Value} {bs : List UInt8} (h : EncAt w0 W v bs) : EncAt w0 W.drew v bs := ⟨h.own, ⟨h.low.os, h.low.tape, h.low.output, h.low.size, h.low.block⟩⟩
theorem Box.drew {W : World} {v : Value} {b : Nat} {o : Obj} (h : Box W v b o) : Box W.drew v b o := h
theorem Box.alloc {W : World} {v : Value} {b : Nat} {o : Obj} (h : Box W v b o) (x : Obj) : Box (W.alloc x) v b o := ⟨(heap_alloc_old _ _ h.lt).trans h.1, h.2⟩
theorem EncAt.box {w0 W : World} {v : Value} {bs : List UInt8} (h : EncAt w0 W v bs) (o : Obj) : Box (W.alloc o) v W.heap.size o := ⟨heap_alloc_new _ _, fun e => by have := (h.own.lt _ e).2; omega⟩
end Go.Proofs.YtdjbkppdppdcgaaGreatDoor

namespace Go.Proofs.YtdjbkppdppdcgaaGreatDoor
open Go.RowKit

/-- Within a reading: the reader, what stands beside it. -/
structure RdAt (w0 : World) (rb : Nat) (b : List UInt8) (r : Drd) (W : World) : Prop where
  at_ : BrAt rb b r W
  foot : Foot w0.heap.size (fun k => k = rb) w0 W
  old : rb < w0.heap.size
/-- A box of the call's own beside the reader. -/
def RBox (w0 W : World) (x : Nat) (o : Obj) : Prop := W.heap[x]? = some o ∧ w0.heap.size ≤ x
section
variable {w0 W W' : World} {rb x : Nat} {b : List UInt8} {r r' : Drd} {o : Obj}
theorem RdAt.post (h : RdAt w0 rb b r W) (hb : BrAt rb b r' W') (hf : RF rb W W') : RdAt w0 rb b r' W' :=
  ⟨hb, h.foot.trans (hf.mono h.foot.size fun _ _ e => e), h.old⟩
theorem RBox.lt (h : RBox w0 W x o) : x < W.heap.size := (Array.getElem?_eq_some_iff.1 h.1).1
theorem RBox.post (h : RBox w0 W x o) (hr : rb < w0.heap.size) (hf : RF rb W W') : RBox w0 W' x o := ⟨(hf.block x h.lt (fun e => by have := h.2; omega)).trans h.1, h.2⟩
theorem RBox.alloc (h : RBox w0 W x o) (p : Obj) : RBox w0 (W.alloc p) x o := ⟨(heap_alloc_old _ _ h.lt).trans h.1, h.2⟩
theorem RdAt.alloc (h : RdAt w0 rb b r W) (p : Obj) : RdAt w0 rb b r (W.alloc p) := ⟨h.at_.keep (heap_alloc_old _ _ h.at_.lt), ⟨h.foot.os, h.foot.tape, h.foot.output, by have := h.foot.size; rw [World.size_alloc]; omega, fun k hk hn => (heap_alloc_old _ _ (Nat.lt_of_lt_of_le hk h.foot.size)).trans (h.foot.block k hk hn)⟩, h.old⟩
theorem RdAt.box (h : RdAt w0 rb b r W) (p : Obj) : RBox w0 (W.alloc p) W.heap.size p := ⟨heap_alloc_new _ _, h.foot.size⟩
theorem RdAt.drew (h : RdAt w0 rb b r W) : RdAt w0 rb b r W.drew := ⟨⟨h.at_.box, h.at_.le⟩, ⟨h.foot.os, h.foot.tape, h.foot.output, h.foot.size, h.foot.block⟩, h.old⟩
theorem RdAt.set (h : RdAt w0 rb b r W) (hx : w0.heap.size ≤ x) (i : Nat) (v : Value) : RdAt w0 rb b r (W.setCell ⟨x, i, none⟩ v) := by
  have hb : ∀ k, k ≠ x → (W.setCell ⟨x, i, none⟩ v).heap[k]? = W.heap[k]? := fun k hk => Below.heap_setCell W _ _ _ hk
  exact ⟨h.at_.keep (hb rb (by have := h.old; omega)), ⟨h.foot.os, h.foot.tape, h.foot.output, by have := h.foot.size; simpa using this, fun k hk hn => (hb k (by omega)).trans (h.foot.block k hk hn)⟩, h.old⟩
end
/-- A row of one's own where its block is as it was. -/
theorem own_keep {W W' : World} {lo : Nat} {e : TypeId} {s n : Nat} {v : Value} {xs : List Value} (h : W.ownsRow lo e s v n xs) (hk : ∀ g, v.ownBlock = some g → W'.heap[g]? = W.heap[g]?) : W'.ownsRow lo e s v n xs := by
  refine ⟨h.1, ?_⟩
  rcases h.2 with h | ⟨g, cap, cur, rfl, hlo, hg, h1, h2, h3, h4⟩
  · exact .inl h
  · exact .inr ⟨g, cap, cur, rfl, hlo, (hk g rfl).trans hg, h1, h2, h3, h4⟩
/-- A function that is read: its box, its rows. -/
structure FnSt (w0 : World) (rb : Nat) (b : List UInt8) (fb : Nat) (c0 c1 c2 vt c4 vc : Value) (ts : List Int) (xs : List Ci) (r : Drd) (W : World) : Prop where
  rd : RdAt w0 rb b r W
  box : RBox w0 W fb (.cells #[c0, c1, c2, vt, c4, vc] 43 (0, 0))
  res : RBox w0 W w0.heap.size (.cells #[.string ⟨#[]⟩, .int .i64 0, .int .i64 0, .slice none 0 0, .int .i64 0, .slice none 0 0] 43 (0, 0))
  own1 : W.ownsRow w0.heap.size 3 1 vt ts.length (ts.map (Value.int .i64))
  own2 : W.ownsRow w0.heap.size 46 5 vc xs.length (xs.flatMap insCells)
  n1 : ∀ g, vt.ownBlock = some g → g ≠ fb ∧ g ≠ w0.heap.size ∧ vc.ownBlock ≠ some g
  n2 : ∀ g, vc.ownBlock = some g → g ≠ fb ∧ g ≠ w0.heap.size
  nf : fb ≠ w0.heap.size
section
variable {w0 W W' W2 : World} {rb fb g2 cap2 : Nat} {b : List UInt8} {c0 c1 c2 vt c4 vc : Value} {ts : List Int} {xs : List Ci} {r r' : Drd} {o : Obj}
theorem FnSt.post (h : FnSt w0 rb b fb c0 c1 c2 vt c4 vc ts xs r W) (hb : BrAt rb b r' W') (hf : RF rb W W') : FnSt w0 rb b fb c0 c1 c2 vt c4 vc ts xs r' W' := by
  have ho := h.rd.old
  refine ⟨h.rd.post hb hf, h.box.post ho hf, h.res.post ho hf, own_keep h.own1 fun g hg => ?_, own_keep h.own2 fun g hg => ?_, h.n1, h.n2, h.nf⟩
  · have := h.own1.lt g hg; exact hf.block g this.2 (by omega)
  · have := h.own2.lt g hg; exact hf.block g this.2 (by omega)
theorem FnSt.drew (h : FnSt w0 rb b fb c0 c1 c2 vt c4 vc ts xs r W) : FnSt w0 rb b fb c0 c1 c2 vt c4 vc ts xs r W.drew := ⟨h.rd.drew, h.box, h.res, h.own1, h.own2, h.n1, h.n2, h.nf⟩
/-- Blocks that stand as they were, but for a row. -/
theorem grown_keep {W W2 : World} {o : Obj} {row : Option Nat} (hg : (W.alloc o).grownBy W2 row) {k : Nat} (hk : k < W.heap.size) (hn : row ≠ some k) : W2.heap[k]? = W.heap[k]? :=
  (hg.block k (by rw [World.size_alloc]; omega) (fun e => hn e.symm)).trans (heap_alloc_old _ _ hk)
theorem RdAt.grown {row : Option Nat} (h : RdAt w0 rb b r W) (hg : (W.alloc o).grownBy W2 row) (hr : ∀ k, row = some k → w0.heap.size ≤ k) : RdAt w0 rb b r W2 := by
  have ho := h.old
  have hs := h.foot.size
  refine ⟨h.at_.keep (grown_keep hg h.at_.lt fun e => ?_), ⟨hg.os.trans h.foot.os, hg.tape.trans h.foot.tape, hg.output.trans h.foot.output, by have := hg.size; rw [World.size_alloc] at this; omega, fun k hk hn => ?_⟩, ho⟩
  · have := hr _ e; omega
  · exact (grown_keep hg (by omega) fun e => by have := hr _ e; omega).trans (h.foot.block k hk hn)
theorem FnSt.push1 (h : FnSt w0 rb b fb c0 c1 c2 vt c4 vc ts xs r W) {x : Int} (ho : W2.ownsRow w0.heap.size 3 1 (.slice (some ⟨g2, 0, none⟩) (ts.length + 1) cap2) (ts.length + 1) (ts.map (Value.int .i64) ++ [.int .i64 x])) (hg : (W.alloc o).grownBy W2 vt.ownBlock) (hb : vt.ownBlock = some g2 ∨ g2 = (W.alloc o).heap.size) :
    W2.heap[fb]? = some (.cells #[c0, c1, c2, vt, c4, vc] 43 (0, 0)) ∧ FnSt w0 rb b fb c0 c1 c2 (.slice (some ⟨g2, 0, none⟩) (ts.length + 1) cap2) c4 vc (ts ++ [x]) xs r (W2.setCell ⟨fb, 3, none⟩ (.slice (some ⟨g2, 0, none⟩) (ts.length + 1) cap2)) := by
  have hvt : ∀ k, vt.ownBlock = some k → w0.heap.size ≤ k := fun k hk => (h.own1.lt k hk).1
  have hfb := h.box.lt
  have hs := h.rd.foot.size
  have hbox : W2.heap[fb]? = some (.cells #[c0, c1, c2, vt, c4, vc] 43 (0, 0)) := (grown_keep hg hfb fun e => (h.n1 _ e).1 rfl).trans h.box.1
  have hg2 : g2 ≠ fb ∧ g2 ≠ w0.heap.size ∧ vc.ownBlock ≠ some g2 := by
    rcases hb with e | e
    · exact h.n1 g2 e
    · rw [World.size_alloc] at e
      refine ⟨by omega, by omega, fun e2 => ?_⟩
      have := (h.own2.lt _ e2).2
      omega
  have hset : ∀ k, k ≠ fb → (W2.setCell ⟨fb, 3, none⟩ (.slice (some ⟨g2, 0, none⟩) (ts.length + 1) cap2)).heap[k]? = W2.heap[k]? := fun k hk => Below.heap_setCell W2 _ _ _ hk
  refine ⟨hbox, (h.rd.grown hg hvt).set h.box.2 3 _, ⟨heap_setCell_same _ _ 3 _ _ _ hbox, h.box.2⟩, ⟨(hset _ (fun e => h.nf e.symm)).trans ((grown_keep hg h.res.lt fun e => (h.n1 _ e).2.1 rfl).trans h.res.1), Nat.le_refl _⟩, ?_, ?_, ?_, h.n2, h.nf⟩
  · rw [List.length_append, List.map_append]
    refine own_keep ho fun g hg => ?_
    simp only [Value.ownBlock, Option.some.injEq] at hg
    subst hg
    exact hset _ hg2.1
  · refine own_keep h.own2 fun g hgo => (hset g (h.n2 g hgo).1).trans (grown_keep hg (h.own2.lt g hgo).2 fun e => (h.n1 _ e).2.2 hgo)
  · intro g hg
    simp only [Value.ownBlock, Option.some.injEq] at hg
    subst hg
    exact hg2
theorem FnSt.push2 (h : FnSt w0 rb b fb c0 c1 c2 vt c4 vc ts xs r W) {x : Ci} (ho : W2.ownsRow w0.heap.size 46 5 (.slice (some ⟨g2, 0, none⟩) (xs.length + 1) cap2) (xs.length + 1) (xs.flatMap insCells ++ insCells x)) (hg : (W.alloc o).grownBy W2 vc.ownBlock) (hb : vc.ownBlock = some g2 ∨ g2 = (W.alloc o).heap.size) :
    W2.heap[fb]? = some (.cells #[c0, c1, c2, vt, c4, vc] 43 (0, 0)) ∧ FnSt w0 rb b fb c0 c1 c2 vt c4 (.slice (some ⟨g2, 0, none⟩) (xs.length + 1) cap2) ts (xs ++ [x]) r (W2.setCell ⟨fb, 5, none⟩ (.slice (some ⟨g2, 0, none⟩) (xs.length + 1) cap2)) := by
  have hvt : ∀ k, vc.ownBlock = some k → w0.heap.size ≤ k := fun k hk => (h.own2.lt k hk).1
  have hfb := h.box.lt
  have hs := h.rd.foot.size
  have hbox : W2.heap[fb]? = some (.cells #[c0, c1, c2, vt, c4, vc] 43 (0, 0)) := (grown_keep hg hfb fun e => (h.n2 _ e).1 rfl).trans h.box.1
  have hg2 : g2 ≠ fb ∧ g2 ≠ w0.heap.size ∧ vt.ownBlock ≠ some g2 := by
    rcases hb with e | e
    · exact ⟨(h.n2 g2 e).1, (h.n2 g2 e).2, fun e2 => (h.n1 _ e2).2.2 e⟩
    · rw [World.size_alloc] at e
      refine ⟨by omega, by omega, fun e2 => ?_⟩
      have := (h.own1.lt _ e2).2
      omega
  have hset : ∀ k, k ≠ fb → (W2.setCell ⟨fb, 5, none⟩ (.slice (some ⟨g2, 0, none⟩) (xs.length + 1) cap2)).heap[k]? = W2.heap[k]? := fun k hk => Below.heap_setCell W2 _ _ _ hk
  refine ⟨hbox, (h.rd.grown hg hvt).set h.box.2 5 _, ⟨heap_setCell_same _ _ 5 _ _ _ hbox, h.box.2⟩, ⟨(hset _ (fun e => h.nf e.symm)).trans ((grown_keep hg h.res.lt fun e => (h.n2 _ e).2 rfl).trans h.res.1), Nat.le_refl _⟩, ?_, ?_, ?_, ?_, h.nf⟩
  · refine own_keep h.own1 fun g hgo => (hset g (h.n1 g hgo).1).trans (grown_keep hg (h.own1.lt g hgo).2 fun e => (h.n1 _ hgo).2.2 e)
  · rw [List.length_append, List.flatMap_append]
    simp only [List.flatMap_cons, List.flatMap_nil, List.append_nil]
    refine own_keep ho fun g hg => ?_
    simp only [Value.ownBlock, Option.some.injEq] at hg
    subst hg
    exact hset _ hg2.1
  · intro g hgo
    refine ⟨(h.n1 g hgo).1, (h.n1 g hgo).2.1, fun e => ?_⟩
    simp only [Value.ownBlock, Option.some.injEq] at e
    subst e
    exact hg2.2.2 hgo
  · intro g hg
    simp only [Value.ownBlock, Option.some.injEq] at hg
    subst hg
    exact ⟨hg2.1, hg2.2.1⟩
theorem FnSt.set4 (h : FnSt w0 rb b fb c0 c1 c2 vt c4 vc ts xs r W) (v : Value) : FnSt w0 rb b fb c0 c1 c2 vt v vc ts xs r (W.setCell ⟨fb, 4, none⟩ v) := by
  have hset : ∀ k, k ≠ fb → (W.setCell ⟨fb, 4, none⟩ v).heap[k]? = W.heap[k]? := fun k hk => Below.heap_setCell W _ _ _ hk
  exact ⟨h.rd.set h.box.2 4 _, ⟨heap_setCell_same _ _ 4 _ _ _ h.box.1, h.box.2⟩, ⟨(hset _ (fun e => h.nf e.symm)).trans h.res.1, Nat.le_refl _⟩, own_keep h.own1 fun g hg => hset g (h.n1 g hg).1, own_keep h.own2 fun g hg => hset g (h.n2 g hg).1, h.n1, h.n2, h.nf⟩
end
end Go.Proofs.YtdjbkppdppdcgaaGreatDoor
