/- code.Encode of a plain program of one function. -/
import Derived.Lib.SlBytesConst
import Derived.Test.YtdjbkppdppdcgaaGreatDoorMCzK
import Derived.Test.YtdjbkppdppdcgaaGreatDoorMCwV
namespace Go.Proofs.YtdjbkppdppdcgaaGreatDoor
open Go.RowKit

section
variable {P : Program} (w : World)
/-- An append to a full row that is not the call's own: a new row. -/
theorem wpList_append_full {ops : Array Oper} {rest : List Oper} {o : Oper} {a : Act} {Q : Exit → Act → World → Prop} (hgd : o.guard = none) (s x : Operand) (t : TypeId)
    (ho : o.op = .call { callee := .builtin .append, args := #[s, x], argTypes := #[t, t] })
    (base : Nat) (e : TypeId) (i : TypeInfo) (z : Value) (ht : P.underlying t = some (.slice e)) (hi : P.info? e = some i) (hz : i.zero = some z)
    (hsize : i.size = 1) (hby : i.bytes = 1) (hzs : z.cells.size = 1)
    (b : Addr) (n : Nat) (xs : List Value) (hs : a.eval s = .slice (some b) n n) (hxl : xs.length = n) (hold : ∀ j v, xs[j]? = some v → w.cell? (b.add j) = some v)
    (ad : Addr) (u : Value) (hx : a.eval x = .slice (some ad) 1 1) (hnews : w.cell? (ad.add 0) = some u) (hn : n ≤ 1000) (hbase : base ≤ w.heap.size)
    (h : ∀ cap w', w'.ownsRow base e 1 (.slice (some ⟨w.heap.size, 0, none⟩) (n + 1) cap) (n + 1) (xs ++ [u]) → Below w.heap.size w w' → wpList P ops Q rest (a.put o.dst (.slice (some ⟨w.heap.size, 0, none⟩) (n + 1) cap)) w') : wpList P ops Q (o :: rest) a w := by
  refine wpList_plain hgd fun K hK => ?_
  have hr := run_append_grow (P := P) w t o.type e i z ht hi hz b n n xs (by rw [hsize]; omega) hold ad 1 1 [u] (by simp [hsize]) (fun j v hj => by
    match j, hj with
    | 0, hj => rw [← hj]; exact hnews) (by omega) (by omega) (growslice_fits (by omega) (by rw [hby]; omega))
  unfold Oper.wp execOp
  simp only [ho, resolve, invoke, builtin, Sem.run_bind, Sem.run_pure, Result.andThen_ok, List.map_toArray, List.map_cons, List.map_nil, hs, hx, hr]
  have hge := grownCap_ge w (n + 1) n e
  refine hK _ _ (h _ _ ⟨by simp [hxl], .inr ⟨w.heap.size, _, _, rfl, hbase, heap_alloc_new w.drew _, hge, grownCap_le_maxLen w (n + 1) n e (by unfold maxLen; omega), ?_, ?_⟩⟩ ⟨rfl, rfl, rfl, by simp, fun k hk => heap_alloc_old w.drew _ hk⟩)
  · simp only [Array.size_append, List.size_toArray, size_zeroCells, hzs, hxl, List.length_cons, List.length_nil]
    omega
  · simp only [Array.toList_append, List.append_assoc]
    rw [← List.append_assoc, Nat.mul_one, show n + 1 = (xs ++ [u]).length by simp [hxl]]
    exact List.take_left
end

set_option maxRecDepth 100000 in
set_option maxHeartbeats 4000000 in
/-- numbers behind a full row that is not the call's own: one small number. -/
theorem numbers_first {w : World} (lo : Nat) (hlo : lo ≤ w.heap.size) {g rb : Nat} (bs : List UInt8) (hbs : bs.length ≤ 1000) (hc : ∀ j v, (Lib.byteCells bs)[j]? = some v → w.cell? ⟨g, j, none⟩ = some v) (c : UInt8) (hcl : c.toNat ≤ 127) (x : Int) (hx : okI x) (hf : foldN x = c.toNat) (hrb : w.cell? ⟨rb, 0, none⟩ = some (.int .i64 x)) (hrl : rb < w.heap.size) (hgl : g < w.heap.size) :
    Calls Tryz.prog 34 #[.slice (some ⟨g, 0, none⟩) bs.length bs.length, .slice (some ⟨rb, 0, none⟩) 1 1] w fun e w' => ∃ v', e = .returned v' ∧ w'.ownsRow lo 5 1 v' (bs.length + 1) (Lib.byteCells (bs ++ [c])) ∧ Below w.heap.size w w' ∧ ∀ b, v'.ownBlock = some b → w.heap.size ≤ b := by
  obtain ⟨i0, hi, hz0, hz1, hz2⟩ := info_parts byteInfo
  obtain ⟨n, hn⟩ : ∃ n, bs.length = n := ⟨_, rfl⟩
  have HBL : Hid ((Lib.byteCells bs).length = n) := Lib.hid (by simp [Lib.byteCells, hn])
  have HC := Lib.hid hc
  rw [hn] at hbs ⊢
  clear hc hn
  go_enter Tryz.func34, Tryz.ntmps34
  go_wp2_with fail
  go_loopw [0, 10] (fun v1 i wr => (i = .int .i64 0 ∧ v1 = .slice (some ⟨g, 0, none⟩) n n ∧ wr = w) ∨ (i = .int .i64 1 ∧ Hid (wr.ownsRow lo 5 1 v1 (n + 1) (Lib.byteCells (bs ++ [c]))) ∧ Hid (Below w.heap.size w wr) ∧ Hid (∀ b, v1.ownBlock = some b → w.heap.size ≤ b))) (fun _ i _ => 1 - (intOf i).toNat)
  case atStart => exact .inl ⟨rfl, rfl, rfl⟩
  case round =>
    rcases hrel with ⟨rfl, rfl, rfl⟩ | ⟨rfl, HO, HB, HG⟩
    · go_wp2_with (go_at_call 63; refine (folded_any x hx _).mono ?_; rintro e w1 ⟨rfl, rfl⟩; rw [hf])
      go_loopw [0, 7] (fun v2 uv wy => v2 = .slice (some ⟨g, 0, none⟩) n n ∧ uv = .int .u64 c.toNat ∧ wy = w1) (fun _ _ _ => 0)
      case atStart => exact ⟨rfl, rfl, rfl⟩
      case round =>
        obtain ⟨rfl, rfl, rfl⟩ := hrel
        have d : decide (127 < c.toNat) = false := decide_eq_false (by omega)
        go_wp2_with (at_builtin; refine wpList_append_full _ rfl _ _ 69 rfl lo 5 i0 _ Tryz.underlying69 hi hz0 hz1 hz2 rfl ⟨g, 0, none⟩ n (Lib.byteCells bs) rfl HBL.out (fun j v hj => by rw [Addr.add_lit, Nat.zero_add]; exact (World.cell?_of_block (w := wr) (a := ⟨g, j, none⟩) (heap_alloc_old _ _ hgl)).trans (HC.out j v hj)) _ (.int .u8 c.toNat) rfl (by rw [Addr.add_lit]; exact (cell_of_row _ _ 0 _ _ _ (heap_alloc_new _ _)).trans rfl) hbs (by simp; omega) ?_; intro cap2 w2 ho2 hb2)
        refine ⟨.inr ⟨rfl, Lib.hid ?_, Lib.hid ?_, Lib.hid fun b hb => ?_⟩, by simp [intOf]⟩
        · simpa [Lib.byteCells] using ho2
        · exact ((Below.refl _ _).alloc (Nat.le_refl _) _).trans (hb2.mono (by simp))
        · simp only [Value.ownBlock, Option.some.injEq] at hb; omega
    · go_wp2_with fail
      go_ret
      exact ⟨_, rfl, HO.out, HB.out, HG.out⟩
theorem enc_first {w w1 : World} (hb : Below w.heap.size w w1) {o : Obj} (hp : w1.heap[w.heap.size]? = some o) :
    Calls Tryz.prog 34 #[.slice (some ⟨w1.heap.size, 0, none⟩) 4 4, .slice (some ⟨w1.heap.size + 1, 0, none⟩) 1 1] ((w1.alloc (.cells #[.int .u8 71, .int .u8 67, .int .u8 48, .int .u8 49] 5 (4, 5))).alloc (.cells #[.int .i64 0] 3 (0, 0)))
      fun e w' => ∃ v', e = .returned v' ∧ EncAt w w' v' [71, 67, 48, 49, 0] ∧ Box w' v' w.heap.size o := by
  have hs1 : (w1.alloc (.cells #[.int .u8 71, .int .u8 67, .int .u8 48, .int .u8 49] 5 (4, 5))).heap.size = w1.heap.size + 1 := World.size_alloc _ _
  have hs2 : ((w1.alloc (.cells #[.int .u8 71, .int .u8 67, .int .u8 48, .int .u8 49] 5 (4, 5))).alloc (.cells #[.int .i64 0] 3 (0, 0))).heap.size = w1.heap.size + 2 := by rw [World.size_alloc, hs1]
  have hlt := (Array.getElem?_eq_some_iff.1 hp).1
  have hB2 : Below w.heap.size w ((w1.alloc (.cells #[.int .u8 71, .int .u8 67, .int .u8 48, .int .u8 49] 5 (4, 5))).alloc (.cells #[.int .i64 0] 3 (0, 0))) := (hb.alloc hb.size _).alloc (by rw [hs1]; have := hb.size; omega) _
  have hn1 := heap_alloc_new (w1.alloc (.cells #[.int .u8 71, .int .u8 67, .int .u8 48, .int .u8 49] 5 (4, 5))) (.cells #[.int .i64 0] 3 (0, 0))
  rw [hs1] at hn1
  refine (numbers_first w.heap.size (by rw [hs2]; have := hb.size; omega) [71, 67, 48, 49] (by decide) (fun j u hj => ?_) 0 (by decide) 0 ⟨by decide, by decide⟩ rfl (cell_of_row _ _ 0 _ _ _ hn1) (by rw [hs2]; omega) (by rw [hs2]; omega)).mono ?_
  · have e := cell_of_row ((w1.alloc (.cells #[.int .u8 71, .int .u8 67, .int .u8 48, .int .u8 49] 5 (4, 5))).alloc (.cells #[.int .i64 0] 3 (0, 0))) w1.heap.size j _ _ _ ((heap_alloc_old _ _ (by rw [hs1]; omega)).trans (heap_alloc_new w1 _))
    rw [e, List.getElem?_toArray]
    exact hj
  · rintro e w2 ⟨v2, rfl, ho2, hb2, hv2⟩
    rw [hs2] at hb2 hv2
    refine ⟨v2, rfl, ⟨ho2, hB2.trans (hb2.mono (by have := hb.size; omega))⟩, ?_, fun e => ?_⟩
    · exact (hb2.block _ (by omega)).trans ((heap_alloc_old _ _ (by rw [hs1]; omega)).trans ((heap_alloc_old _ _ hlt).trans hp))
    · have := hv2 _ e; omega

end Go.Proofs.YtdjbkppdppdcgaaGreatDoor
