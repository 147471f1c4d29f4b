/- (*reader).function. strconv.ParseUint at the base sixteen; code.float. code.headed$1, slices.IndexFunc and ContainsFunc of ints over it. -/
import Derived.Deep.AppendLies
import Derived.Test.YtdjbkppdppdcgaaGreatDoorMCwR
import Derived.Test.YtdjbkppdppdcgaaGreatDoorMCwN
import Derived.Test.YtdjbkppdppdcgaaGreatDoorMCwG
import Derived.Test.YtdjbkppdppdcgaaGreatDoorCwT
import Derived.Test.YtdjbkppdppdcgaaGreatDoorMCwX
import Derived.Test.YtdjbkppdppdcgaaGreatDoorMCwA
namespace Go.Proofs.YtdjbkppdppdcgaaGreatDoor
open Go.RowKit

/-- Within a reading: the reader, what stands beside it. -/
structure RdAt (w0 : World) (rb : Nat) (b : List UInt8) (r : Drd) (W : World) : Prop where
  at_ : BrAt rb b r W
  foot : Foot w0.heap.size (fun k => k = rb) w0 W
  old : rb < w0.heap.size
/-- A box of the call's own beside the reader. -/
def RBox (w0 W : World) (x : Nat) (o : Obj) : Prop := W.heap[x]? = some o ∧ w0.heap.size ≤ x
section
variable {w0 W W' : World} {rb x : Nat} {b : List UInt8} {r r' : Drd} {o : Obj}
theorem RdAt.post (h : RdAt w0 rb b r W) (hb : BrAt rb b r' W') (hf : RF rb W W') : RdAt w0 rb b r' W' :=
  ⟨hb, h.foot.trans (hf.mono h.foot.size fun _ _ e => e), h.old⟩
theorem RBox.lt (h : RBox w0 W x o) : x < W.heap.size := (Array.getElem?_eq_some_iff.1 h.1).1
theorem RBox.post (h : RBox w0 W x o) (hr : rb < w0.heap.size) (hf : RF rb W W') : RBox w0 W' x o := ⟨(hf.block x h.lt (fun e => by have := h.2; omega)).trans h.1, h.2⟩
theorem RBox.alloc (h : RBox w0 W x o) (p : Obj) : RBox w0 (W.alloc p) x o := ⟨(heap_alloc_old _ _ h.lt).trans h.1, h.2⟩
theorem RdAt.alloc (h : RdAt w0 rb b r W) (p : Obj) : RdAt w0 rb b r (W.alloc p) := ⟨h.at_.keep (heap_alloc_old _ _ h.at_.lt), ⟨h.foot.os, h.foot.tape, h.foot.output, by have := h.foot.size; rw [World.size_alloc]; omega, fun k hk hn => (heap_alloc_old _ _ (Nat.lt_of_lt_of_le hk h.foot.size)).trans (h.foot.block k hk hn)⟩, h.old⟩
theorem RdAt.box (h : RdAt w0 rb b r W) (p : Obj) : RBox w0 (W.alloc p) W.heap.size p := ⟨heap_alloc_new _ _, h.foot.size⟩
theorem RdAt.drew (h : RdAt w0 rb b r W) : RdAt w0 rb b r W.drew := ⟨⟨h.at_.box, h.at_.le⟩, ⟨h.foot.os, h.foot.tape, h.foot.output, h.foot.size, h.foot.block⟩, h.old⟩
theorem RdAt.set (h : RdAt w0 rb b r W) (hx : w0.heap.size ≤ x) (i : Nat) (v : Value) : RdAt w0 rb b r (W.setCell ⟨x, i, none⟩ v) := by
  have hb : ∀ k, k ≠ x → (W.setCell ⟨x, i, none⟩ v).heap[k]? = W.heap[k]? := fun k hk => Below.heap_setCell W _ _ _ hk
  exact ⟨h.at_.keep (hb rb (by have := h.old; omega)), ⟨h.foot.os, h.foot.tape, h.foot.output, by have := h.foot.size; simpa using this, fun k hk hn => (hb k (by omega)).trans (h.foot.block k hk hn)⟩, h.old⟩
end
/-- A row of one's own where its block is as it was. -/
theorem own_keep {W W' : World} {lo : Nat} {e : TypeId} {s n : Nat} {v : Value} {xs : List Value} (h : W.ownsRow lo e s v n xs) (hk : ∀ g, v.ownBlock = some g → W'.heap[g]? = W.heap[g]?) : W'.ownsRow lo e s v n xs := by
  refine ⟨h.1, ?_⟩
  rcases h.2 with h | ⟨g, cap, cur, rfl, hlo, hg, h1, h2, h3, h4⟩
  · exact .inl h
  · exact .inr ⟨g, cap, cur, rfl, hlo, (hk g rfl).trans hg, h1, h2, h3, h4⟩
/-- A function that is read: its box, its rows. -/
structure FnSt (w0 : World) (rb : Nat) (b : List UInt8) (fb : Nat) (c0 c1 c2 vt c4 vc : Value) (ts : List Int) (xs : List Ci) (r : Drd) (W : World) : Prop where
  rd : RdAt w0 rb b r W
  box : RBox w0 W fb (.cells #[c0, c1, c2, vt, c4, vc] 43 (0, 0))
  res : RBox w0 W w0.heap.size (.cells #[.string ⟨#[]⟩, .int .i64 0, .int .i64 0, .slice none 0 0, .int .i64 0, .slice none 0 0] 43 (0, 0))
  own1 : W.ownsRow w0.heap.size 3 1 vt ts.length (ts.map (Value.int .i64))
  own2 : W.ownsRow w0.heap.size 46 5 vc xs.length (xs.flatMap insCells)
  n1 : ∀ g, vt.ownBlock = some g → g ≠ fb ∧ g ≠ w0.heap.size ∧ vc.ownBlock ≠ some g
  n2 : ∀ g, vc.ownBlock = some g → g ≠ fb ∧ g ≠ w0.heap.size
  nf : fb ≠ w0.heap.size
section
variable {w0 W W' W2 : World} {rb fb g2 cap2 : Nat} {b : List UInt8} {c0 c1 c2 vt c4 vc : Value} {ts : List Int} {xs : List Ci} {r r' : Drd} {o : Obj}
theorem FnSt.post (h : FnSt w0 rb b fb c0 c1 c2 vt c4 vc ts xs r W) (hb : BrAt rb b r' W') (hf : RF rb W W') : FnSt w0 rb b fb c0 c1 c2 vt c4 vc ts xs r' W' := by
  have ho := h.rd.old
  refine ⟨h.rd.post hb hf, h.box.post ho hf, h.res.post ho hf, own_keep h.own1 fun g hg => ?_, own_keep h.own2 fun g hg => ?_, h.n1, h.n2, h.nf⟩
  · have := h.own1.lt g hg; exact hf.block g this.2 (by omega)
  · have := h.own2.lt g hg; exact hf.block g this.2 (by omega)
theorem FnSt.drew (h : FnSt w0 rb b fb c0 c1 c2 vt c4 vc ts xs r W) : FnSt w0 rb b fb c0 c1 c2 vt c4 vc ts xs r W.drew := ⟨h.rd.drew, h.box, h.res, h.own1, h.own2, h.n1, h.n2, h.nf⟩
/-- Blocks that stand as they were, but for a row. -/
theorem grown_keep {W W2 : World} {o : Obj} {row : Option Nat} (hg : (W.alloc o).grownBy W2 row) {k : Nat} (hk : k < W.heap.size) (hn : row ≠ some k) : W2.heap[k]? = W.heap[k]? :=
  (hg.block k (by rw [World.size_alloc]; omega) (fun e => hn e.symm)).trans (heap_alloc_old _ _ hk)
theorem RdAt.grown {row : Option Nat} (h : RdAt w0 rb b r W) (hg : (W.alloc o).grownBy W2 row) (hr : ∀ k, row = some k → w0.heap.size ≤ k) : RdAt w0 rb b r W2 := by
  have ho := h.old
  have hs := h.foot.size
  refine ⟨h.at_.keep (grown_keep hg h.at_.lt fun e => ?_), ⟨hg.os.trans h.foot.os, hg.tape.trans h.foot.tape, hg.output.trans h.foot.output, by have := hg.size; rw [World.size_alloc] at this; omega, fun k hk hn => ?_⟩, ho⟩
  · have := hr _ e; omega
  · exact (grown_keep hg (by omega) fun e => by have := hr _ e; omega).trans (h.foot.block k hk hn)
theorem FnSt.push1 (h : FnSt w0 rb b fb c0 c1 c2 vt c4 vc ts xs r W) {x : Int} (ho : W2.ownsRow w0.heap.size 3 1 (.slice (some ⟨g2, 0, none⟩) (ts.length + 1) cap2) (ts.length + 1) (ts.map (Value.int .i64) ++ [.int .i64 x])) (hg : (W.alloc o).grownBy W2 vt.ownBlock) (hb : vt.ownBlock = some g2 ∨ g2 = (W.alloc o).heap.size) :
    W2.heap[fb]? = some (.cells #[c0, c1, c2, vt, c4, vc] 43 (0, 0)) ∧ FnSt w0 rb b fb c0 c1 c2 (.slice (some ⟨g2, 0, none⟩) (ts.length + 1) cap2) c4 vc (ts ++ [x]) xs r (W2.setCell ⟨fb, 3, none⟩ (.slice (some ⟨g2, 0, none⟩) (ts.length + 1) cap2)) := by
  have hvt : ∀ k, vt.ownBlock = some k → w0.heap.size ≤ k := fun k hk => (h.own1.lt k hk).1
  have hfb := h.box.lt
  have hs := h.rd.foot.size
  have hbox : W2.heap[fb]? = some (.cells #[c0, c1, c2, vt, c4, vc] 43 (0, 0)) := (grown_keep hg hfb fun e => (h.n1 _ e).1 rfl).trans h.box.1
  have hg2 : g2 ≠ fb ∧ g2 ≠ w0.heap.size ∧ vc.ownBlock ≠ some g2 := by
    rcases hb with e | e
    · exact h.n1 g2 e
    · rw [World.size_alloc] at e
      refine ⟨by omega, by omega, fun e2 => ?_⟩
      have := (h.own2.lt _ e2).2
      omega
  have hset : ∀ k, k ≠ fb → (W2.setCell ⟨fb, 3, none⟩ (.slice (some ⟨g2, 0, none⟩) (ts.length + 1) cap2)).heap[k]? = W2.heap[k]? := fun k hk => Below.heap_setCell W2 _ _ _ hk
  refine ⟨hbox, (h.rd.grown hg hvt).set h.box.2 3 _, ⟨heap_setCell_same _ _ 3 _ _ _ hbox, h.box.2⟩, ⟨(hset _ (fun e => h.nf e.symm)).trans ((grown_keep hg h.res.lt fun e => (h.n1 _ e).2.1 rfl).trans h.res.1), Nat.le_refl _⟩, ?_, ?_, ?_, h.n2, h.nf⟩
  · rw [List.length_append, List.map_append]
    refine own_keep ho fun g hg => ?_
    simp only [Value.ownBlock, Option.some.injEq] at hg
    subst hg
    exact hset _ hg2.1
  · refine own_keep h.own2 fun g hgo => (hset g (h.n2 g hgo).1).trans (grown_keep hg (h.own2.lt g hgo).2 fun e => (h.n1 _ e).2.2 hgo)
  · intro g hg
    simp only [Value.ownBlock, Option.some.injEq] at hg
    subst hg
    exact hg2
theorem FnSt.push2 (h : FnSt w0 rb b fb c0 c1 c2 vt c4 vc ts xs r W) {x : Ci} (ho : W2.ownsRow w0.heap.size 46 5 (.slice (some ⟨g2, 0, none⟩) (xs.length + 1) cap2) (xs.length + 1) (xs.flatMap insCells ++ insCells x)) (hg : (W.alloc o).grownBy W2 vc.ownBlock) (hb : vc.ownBlock = some g2 ∨ g2 = (W.alloc o).heap.size) :
    W2.heap[fb]? = some (.cells #[c0, c1, c2, vt, c4, vc] 43 (0, 0)) ∧ FnSt w0 rb b fb c0 c1 c2 vt c4 (.slice (some ⟨g2, 0, none⟩) (xs.length + 1) cap2) ts (xs ++ [x]) r (W2.setCell ⟨fb, 5, none⟩ (.slice (some ⟨g2, 0, none⟩) (xs.length + 1) cap2)) := by
  have hvt : ∀ k, vc.ownBlock = some k → w0.heap.size ≤ k := fun k hk => (h.own2.lt k hk).1
  have hfb := h.box.lt
  have hs := h.rd.foot.size
  have hbox : W2.heap[fb]? = some (.cells #[c0, c1, c2, vt, c4, vc] 43 (0, 0)) := (grown_keep hg hfb fun e => (h.n2 _ e).1 rfl).trans h.box.1
  have hg2 : g2 ≠ fb ∧ g2 ≠ w0.heap.size ∧ vt.ownBlock ≠ some g2 := by
    rcases hb with e | e
    · exact ⟨(h.n2 g2 e).1, (h.n2 g2 e).2, fun e2 => (h.n1 _ e2).2.2 e⟩
    · rw [World.size_alloc] at e
      refine ⟨by omega, by omega, fun e2 => ?_⟩
      have := (h.own1.lt _ e2).2
      omega
  have hset : ∀ k, k ≠ fb → (W2.setCell ⟨fb, 5, none⟩ (.slice (some ⟨g2, 0, none⟩) (xs.length + 1) cap2)).heap[k]? = W2.heap[k]? := fun k hk => Below.heap_setCell W2 _ _ _ hk
  refine ⟨hbox, (h.rd.grown hg hvt).set h.box.2 5 _, ⟨heap_setCell_same _ _ 5 _ _ _ hbox, h.box.2⟩, ⟨(hset _ (fun e => h.nf e.symm)).trans ((grown_keep hg h.res.lt fun e => (h.n2 _ e).2 rfl).trans h.res.1), Nat.le_refl _⟩, ?_, ?_, ?_, ?_, h.nf⟩
  · refine own_keep h.own1 fun g hgo => (hset g (h.n1 g hgo).1).trans (grown_keep hg (h.own1.lt g hgo).2 fun e => (h.n1 _ hgo).2.2 e)
  · rw [List.length_append, List.flatMap_append]
    simp only [List.flatMap_cons, List.flatMap_nil, List.append_nil]
    refine own_keep ho fun g hg => ?_
    simp only [Value.ownBlock, Option.some.injEq] at hg
    subst hg
    exact hset _ hg2.1
  · intro g hgo
    refine ⟨(h.n1 g hgo).1, (h.n1 g hgo).2.1, fun e => ?_⟩
    simp only [Value.ownBlock, Option.some.injEq] at e
    subst e
    exact hg2.2.2 hgo
  · intro g hg
    simp only [Value.ownBlock, Option.some.injEq] at hg
    subst hg
    exact ⟨hg2.1, hg2.2.1⟩
theorem FnSt.set4 (h : FnSt w0 rb b fb c0 c1 c2 vt c4 vc ts xs r W) (v : Value) : FnSt w0 rb b fb c0 c1 c2 vt v vc ts xs r (W.setCell ⟨fb, 4, none⟩ v) := by
  have hset : ∀ k, k ≠ fb → (W.setCell ⟨fb, 4, none⟩ v).heap[k]? = W.heap[k]? := fun k hk => Below.heap_setCell W _ _ _ hk
  exact ⟨h.rd.set h.box.2 4 _, ⟨heap_setCell_same _ _ 4 _ _ _ h.box.1, h.box.2⟩, ⟨(hset _ (fun e => h.nf e.symm)).trans h.res.1, Nat.le_refl _⟩, own_keep h.own1 fun g hg => hset g (h.n1 g hg).1, own_keep h.own2 fun g hg => hset g (h.n2 g hg).1, h.n1, h.n2, h.nf⟩
end
end Go.Proofs.YtdjbkppdppdcgaaGreatDoor

namespace Go.Proofs.YtdjbkppdppdcgaaGreatDoor
open Go.RowKit

def hexCheck (n : Nat) : Bool :=
  (match hexV (UInt8.ofNat n) with | some d => hexA n == some d && Lib.lowerB (UInt8.ofNat n) == UInt8.ofNat n | none => true) &&
  (match hexA n with | some d => decide (n < 128) && (!(n == 43) && (decide (d < 16) && (!(Lib.lowerB (UInt8.ofNat n) == UInt8.ofNat n) || hexV (UInt8.ofNat n) == some d))) | none => true)
theorem hexCheck_all : (List.range 256).all hexCheck = true := by kernel_rfl
theorem hex_byte (c : UInt8) : (∀ d, hexV c = some d → hexA c.toNat = some d ∧ Lib.lowerB c = c) ∧ ∀ d, hexA c.toNat = some d → c.toNat < 128 ∧ c.toNat ≠ 43 ∧ d < 16 ∧ (Lib.lowerB c = c → hexV c = some d) := by
  have h := List.all_eq_true.mp hexCheck_all c.toNat (List.mem_range.2 c.toNat_lt)
  unfold hexCheck at h
  rw [show UInt8.ofNat c.toNat = c by simp] at h
  simp only [Bool.and_eq_true] at h
  obtain ⟨h1, h2⟩ := h
  constructor
  · intro d hd
    rw [hd] at h1
    simpa using h1
  · intro d hd
    rw [hd] at h2
    simp only [Bool.and_eq_true, decide_eq_true_eq, Bool.not_eq_true', beq_eq_false_iff_ne, Bool.or_eq_true, beq_iff_eq] at h2
    obtain ⟨a, b, c', e⟩ := h2
    refine ⟨a, b, c', fun hl => ?_⟩
    rcases e with e | e
    · exact absurd hl e
    · exact e
theorem hexU_of : ∀ (s : List UInt8) (n m : Nat), hexNum s n = some m → (n + 1) * 16 ^ s.length ≤ 18446744073709551616 → hexU s n = some m ∧ Lib.toLowerA s = s
  | [], n, m, h, _ => ⟨h, rfl⟩
  | c :: r, n, m, h, hb => by
    rw [hexNum] at h
    cases hc : hexV c with
    | none => rw [hc] at h; cases h
    | some d =>
      rw [hc] at h
      have h' : hexNum r (16 * n + d) = some m := h
      obtain ⟨ha, hl⟩ := (hex_byte c).1 d hc
      have hd := ((hex_byte c).2 d ha).2.2.1
      have hp : 1 ≤ 16 ^ r.length := by first | exact Nat.pos_pow (by decide) | exact Nat.pow_pos (by decide) | exact Nat.pos_pow_of_pos _ (by decide)
      rw [List.length_cons, Nat.pow_succ] at hb
      have hb2 : (16 * n + d + 1) * 16 ^ r.length ≤ 18446744073709551616 := by
        refine Nat.le_trans (Nat.mul_le_mul_right _ (show 16 * n + d + 1 ≤ (n + 1) * 16 by omega)) ?_
        rw [Nat.mul_assoc, Nat.mul_comm 16]
        exact hb
      have hn : ¬ 1152921504606846976 ≤ n := by
        intro hge
        have : (n + 1) * (16 ^ r.length * 16) ≥ (n + 1) * 16 := Nat.mul_le_mul_left _ (by omega)
        omega
      obtain ⟨i1, i2⟩ := hexU_of r _ m h' hb2
      exact ⟨by rw [hexU_go ha hn]; exact i1, by rw [Lib.toLowerA, List.map_cons, hl]; exact congrArg (c :: ·) i2⟩
theorem hexNum_of : ∀ (s : List UInt8) (n m : Nat), hexU s n = some m → Lib.toLowerA s = s → hexNum s n = some m
  | [], n, m, h, _ => h
  | c :: r, n, m, h, hl => by
    rw [Lib.toLowerA, List.map_cons, List.cons.injEq] at hl
    cases hc : hexA c.toNat with
    | none => rw [hexU_bad hc] at h; cases h
    | some d =>
      have hn : ¬ 1152921504606846976 ≤ n := fun hge => by rw [hexU_far hge] at h; cases h
      rw [hexU_go hc hn] at h
      rw [hexNum, ((hex_byte c).2 d hc).2.2.2 hl.1]
      exact hexNum_of r _ m h hl.2
theorem hexU_ascii : ∀ (s : List UInt8) (n m : Nat), hexU s n = some m → ∀ b ∈ s, b.toNat < 128 ∧ b.toNat ≠ 43
  | [], _, _, _, b, hb => by cases hb
  | c :: r, n, m, h, b, hb => by
    cases hc : hexA c.toNat with
    | none => rw [hexU_bad hc] at h; cases h
    | some d =>
      have hn : ¬ 1152921504606846976 ≤ n := fun hge => by rw [hexU_far hge] at h; cases h
      rw [hexU_go hc hn] at h
      rcases List.mem_cons.1 hb with rfl | hb
      · exact ⟨((hex_byte b).2 d hc).1, ((hex_byte b).2 d hc).2.1⟩
      · exact hexU_ascii r _ m h b hb
def hexW (s : List UInt8) : Option Nat := if s = [] then none else hexU s 0
def UintPost (w : World) (r : Option Nat) (e : Ending) (w' : World) : Prop := Below w.heap.size w w' ∧ match r with
  | some n => n < 18446744073709551616 ∧ e = .returned (.tuple #[.int .u64 n, .nilIface])
  | none => ∃ v te pe, e = .returned (.tuple #[.int .u64 v, .iface te pe])

set_option maxHeartbeats 4000000 in
set_option maxRecDepth 100000 in
theorem hex_outer (t : List UInt8) (hmax : t.length ≤ 4000000000) (w : World) (hG : Gc w) :
    Calls Tryz.prog 109 #[.string ⟨⟨t⟩⟩, .int .i64 16, .int .i64 64] w (UintPost w (hexW t)) := by
  obtain ⟨es, hs1, hs2⟩ := hG.syn
  obtain ⟨er, hr1, hr2⟩ := hG.rng
  have HI : Hid (Calls Tryz.prog 132 #[.string ⟨⟨t⟩⟩, .int .i64 16, .int .i64 64] w (HexPost w (hexW t))) := Lib.hid (by
    cases t with
    | nil =>
      refine (Tryz.internal_strconv_ParseUint_empty 16 64 w).mono ?_
      rintro e w' ⟨rfl, rfl⟩
      exact ⟨Below.refl _ _, 0, 2, .inr rfl, rfl⟩
    | cons c r => exact hex_inner ⟨⟨c :: r⟩⟩ (by show (c :: r).length ≠ 0; simp) hmax w)
  have HT : Hid (∀ w', Below w.heap.size w w' → ∀ k, (k = 1 ∨ k = 2) → Calls Tryz.prog 131 #[.string ⟨#[80, 97, 114, 115, 101, 85, 105, 110, 116]⟩, .string ⟨⟨t⟩⟩, .int .i64 16, .int .i64 64, .iface 234 (.int .i64 k)] w' fun e w'' => ∃ te pe, e = .returned (.iface te pe) ∧ Below w'.heap.size w' w'') := Lib.hid (by
    intro w' hb k hk
    rcases hk with rfl | rfl
    · refine (Tryz.strconv_toError_range _ _ _ _ er w' (by show t.length ≤ _; omega) ((hb.cell (p := ⟨6, 0, none⟩) (Nat.lt_of_lt_of_le (by decide) hG.size)).trans hr1) hr2).mono ?_
      rintro e w'' ⟨N, rfl, _, _, h⟩
      exact ⟨_, _, rfl, h⟩
    · refine (Tryz.strconv_toError_syntax _ _ _ _ es w' (by show t.length ≤ _; omega) ((hb.cell (p := ⟨5, 0, none⟩) (Nat.lt_of_lt_of_le (by decide) hG.size)).trans hs1) hs2).mono ?_
      rintro e w'' ⟨N, rfl, _, _, h⟩
      exact ⟨_, _, rfl, h⟩)
  clear hs1 hs2 hr1 hr2 hG
  obtain ⟨R, hR⟩ : ∃ R, hexW t = R := ⟨_, rfl⟩
  rw [hR] at HI ⊢
  clear hR
  go_enter Tryz.func109, Tryz.ntmps109
  cases R with
  | some n =>
    go_wp2_with (go_at_call 132; refine HI.out.mono ?_; rintro e w1 ⟨hb1, hn, rfl⟩)
    go_ret2
    exact ⟨hb1, hn, rfl⟩
  | none =>
    go_wp2_with (first
      | (go_at_call 132; refine HI.out.mono ?_; rintro e w1 ⟨hb1, v, k, hk, rfl⟩; have HB1 := Lib.hid hb1; clear hb1)
      | (go_at_call 131; refine (HT.out _ HB1.out _ hk).mono ?_; rintro e w2 ⟨te, pe, rfl, hb2⟩))
    go_ret2
    exact ⟨HB1.out.trans (hb2.mono HB1.out.size), _, _, _, rfl⟩
end Go.Proofs.YtdjbkppdppdcgaaGreatDoor

namespace Go.Proofs.YtdjbkppdppdcgaaGreatDoor
open Go.RowKit

def outB (slots : Int) (n : Nat) (t : Int) : Bool := decide (slots ≤ t) || decide (t < -(n : Int))
set_option maxRecDepth 100000 in
set_option maxHeartbeats 4000000 in
theorem headed1_any {w : World} {b n cap : Nat} {ta : Option Addr} {slots t : Int} (h2 : w.cell? ⟨b, 2, none⟩ = some (.int .i64 slots)) (h3 : w.cell? ⟨b, 3, none⟩ = some (.slice ta n cap)) (hn : n ≤ 140737488351232) :
    Calls Tryz.prog 56 #[.int .i64 t, .pointer (some ⟨b, 0, none⟩)] w fun e w' => e = .returned (.bool (outB slots n t)) ∧ w' = w := by
  have HF : Hid (outB slots n t = (decide (slots ≤ t) || decide (t < -(n : Int)))) := rfl
  go_enter Tryz.func56, Tryz.ntmps56
  cases d1 : decide (slots ≤ t) with
  | true =>
    rw [d1] at HF
    go_wp2_with fail
    go_ret
    exact ⟨ret_bool (by rw [HF.out]; rfl), rfl⟩
  | false =>
    rw [d1] at HF
    go_wp2_with fail
    go_ret
    exact ⟨ret_bool (by rw [HF.out]; rfl), rfl⟩

set_option maxRecDepth 100000 in
set_option maxHeartbeats 4000000 in
theorem indexTaken_any {w : World} {b n cap c : Nat} {ta A : Option Addr} {slots : Int} {l : List Int} (h2 : w.cell? ⟨b, 2, none⟩ = some (.int .i64 slots)) (h3 : w.cell? ⟨b, 3, none⟩ = some (.slice ta n cap)) (hn : n ≤ 140737488351232)
    (hrow : RowIs w w.heap.size A (l.map (Value.int .i64))) (hl : l.length ≤ 140737488351232) :
    Calls Tryz.prog 80 #[.slice A l.length c, .func (.func 56) #[] #[.pointer (some ⟨b, 0, none⟩)]] w fun e w' => ∃ r : Int, e = .returned (.int .i64 r) ∧ decide (0 ≤ r) = l.any (outB slots n) ∧ w' = w := by
  have hcall : ∀ (v u : Value) (w' : World), (callFunc 56 #[v, u]).run Tryz.prog w' = .ok (.enter 56 #[v, u]) w' := fun v u w' => enters_of Tryz.func56 (by kernel_rfl) rfl _ _
  have HR := Lib.hid hrow
  obtain ⟨m, hm⟩ : ∃ m, l.length = m := ⟨_, rfl⟩
  have HL := Lib.hid hm
  have HC : Hid (∀ t, Calls Tryz.prog 56 #[.int .i64 t, .pointer (some ⟨b, 0, none⟩)] w fun e w' => e = .returned (.bool (outB slots n t)) ∧ w' = w) := Lib.hid fun t => headed1_any h2 h3 hn
  rw [hm] at hl ⊢
  clear hrow h2 h3 hm
  go_enter Tryz.func80, Tryz.ntmps80
  go_wp2_with fail
  go_loopw [8] (fun i wr => wr = w ∧ ∃ j : Nat, j ≤ m ∧ i = .int .i64 j ∧ Hid ((l.drop j).any (outB slots n) = l.any (outB slots n))) (fun i _ => m - (intOf i).toNat)
  case atStart => exact ⟨rfl, 0, Nat.zero_le _, rfl, Lib.hid rfl⟩
  case round =>
    obtain ⟨rfl, j, hj, rfl, HI⟩ := hrel
    by_cases hlt : j < m
    · obtain ⟨g, o, rfl, hg, hc⟩ := HR.out.at (by rw [List.length_map, HL.out]; omega)
      obtain ⟨x, hx⟩ : ∃ x, l[j]? = some x := ⟨_, List.getElem?_eq_getElem (by rw [HL.out]; exact hlt)⟩
      have hcell := hc j (.int .i64 x) (by rw [List.getElem?_map, hx]; rfl)
      have HD : Hid (l.drop j = x :: l.drop (j + 1)) := Lib.hid (drop_cons hx)
      clear hc hx
      cases hb : outB slots n x with
      | true =>
        go_wp2_with (go_at_call 56; refine (HC.out x).mono ?_; rw [hb]; rintro e w' ⟨rfl, rfl⟩)
        go_ret
        refine ⟨(j : Int), rfl, ?_, rfl⟩
        rw [← HI.out, HD.out, List.any_cons, hb]
        simp
      | false =>
        go_wp2_with (go_at_call 56; refine (HC.out x).mono ?_; rw [hb]; rintro e w' ⟨rfl, rfl⟩)
        go_roundw
        case rel =>
          refine ⟨by trivial, j + 1, by omega, by go_num, Lib.hid ?_⟩
          rw [← HI.out, HD.out, List.any_cons, hb, Bool.false_or]
        case measure => simp [intOf]; omega
    · obtain rfl : j = m := by omega
      go_wp2_with fail
      go_ret
      refine ⟨-1, rfl, ?_, rfl⟩
      rw [← HI.out, List.drop_of_length_le (by rw [HL.out]; exact Nat.le_refl _)]
      rfl
set_option maxRecDepth 100000 in
theorem containsTaken_any {w : World} {b n cap c : Nat} {ta A : Option Addr} {slots : Int} {l : List Int} (h2 : w.cell? ⟨b, 2, none⟩ = some (.int .i64 slots)) (h3 : w.cell? ⟨b, 3, none⟩ = some (.slice ta n cap)) (hn : n ≤ 140737488351232)
    (hrow : RowIs w w.heap.size A (l.map (Value.int .i64))) (hl : l.length ≤ 140737488351232) :
    Calls Tryz.prog 55 #[.slice A l.length c, .func (.func 56) #[] #[.pointer (some ⟨b, 0, none⟩)]] w fun e w' => e = .returned (.bool (l.any (outB slots n))) ∧ w' = w := by
  have HC := Lib.hid (indexTaken_any (c := c) h2 h3 hn hrow hl)
  clear h2 h3 hrow
  go_enter Tryz.func55, Tryz.ntmps55
  go_wp2_with (go_at_call 80; refine HC.out.mono ?_; rintro e w' ⟨r, rfl, hr, rfl⟩)
  go_ret
  first
    | exact ⟨ret_bool hr, rfl⟩
    | exact ⟨rfl, rfl⟩
end Go.Proofs.YtdjbkppdppdcgaaGreatDoor
