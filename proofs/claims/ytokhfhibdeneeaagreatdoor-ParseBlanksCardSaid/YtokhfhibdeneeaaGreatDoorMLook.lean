/- (*walker).look: what is wrong first with a tree, and how many nodes have been seen. (*walker).look: the walk. tree.Right at every tree. -/
import Derived.Test.YtokhfhibdeneeaaGreatDoorMLookSpec
import Derived.Test.YtokhfhibdeneeaaGreatDoorMOver
namespace Go.Proofs.YtokhfhibdeneeaaGreatDoor
open Go.RowKit Go.Shelf
attribute [local go_sem] Oper.semAt_some

theorem may_any (k : Int) (s : ByteArray) (n a : Int) (A : Option Addr) (len cap : Nat) (q : Int) (hq : 0 ≤ q ∧ q ≤ 29) (w : World) :
    Calls Tryz.prog 66 #[.agg #[.int .i64 k, .string s, .int .i64 n, .int .i64 a, .slice A len cap], .int .i64 q] w fun e w' => e = .returned (.bool (mayB k s q)) ∧ Below w.heap.size w w' := by
  have h : q = 0 ∨ q = 1 ∨ q = 2 ∨ q = 3 ∨ q = 4 ∨ q = 5 ∨ q = 6 ∨ q = 7 ∨ q = 8 ∨ q = 9 ∨ q = 10 ∨ q = 11 ∨ q = 12 ∨ q = 13 ∨ q = 14 ∨ q = 15 ∨ q = 16 ∨ q = 17 ∨ q = 18 ∨ q = 19 ∨ q = 20 ∨ q = 21 ∨ q = 22 ∨ q = 23 ∨ q = 24 ∨ q = 25 ∨ q = 26 ∨ q = 27 ∨ q = 28 ∨ q = 29 := by omega
  rcases h with rfl | rfl | rfl | rfl | rfl | rfl | rfl | rfl | rfl | rfl | rfl | rfl | rfl | rfl | rfl | rfl | rfl | rfl | rfl | rfl | rfl | rfl | rfl | rfl | rfl | rfl | rfl | rfl | rfl | rfl
  · exact may_at0 k s n a A len cap w
  · exact may_at1 k s n a A len cap w
  · exact may_at2 k s n a A len cap w
  · exact may_at3 k s n a A len cap w
  · exact may_at4 k s n a A len cap w
  · exact may_at5 k s n a A len cap w
  · exact may_at6 k s n a A len cap w
  · exact may_at7 k s n a A len cap w
  · exact may_at8 k s n a A len cap w
  · exact may_at9 k s n a A len cap w
  · exact may_at10 k s n a A len cap w
  · exact may_at11 k s n a A len cap w
  · exact may_at12 k s n a A len cap w
  · exact may_at13 k s n a A len cap w
  · exact may_at14 k s n a A len cap w
  · exact may_at15 k s n a A len cap w
  · exact may_at16 k s n a A len cap w
  · exact may_at17 k s n a A len cap w
  · exact may_at18 k s n a A len cap w
  · exact may_at19 k s n a A len cap w
  · exact may_at20 k s n a A len cap w
  · exact may_at21 k s n a A len cap w
  · exact may_at22 k s n a A len cap w
  · exact may_at23 k s n a A len cap w
  · exact may_at24 k s n a A len cap w
  · exact may_at25 k s n a A len cap w
  · exact may_at26 k s n a A len cap w
  · exact may_at27 k s n a A len cap w
  · exact may_at28 k s n a A len cap w
  · exact may_at29 k s n a A len cap w

/-- The frame of a call of look, at W: its four boxes lie from B on; the walker in block bw has seen so many. -/
structure Fr (B bw : Nat) (k : Int) (s : ByteArray) (n a : Int) (A : Option Addr) (cap : Nat) (ks : List Nd) (deep seen : Int) (w W : World) : Prop where
  hB : bw < B
  h3 : 5 ≤ bw
  size : B + 4 ≤ W.heap.size
  foot : Foot B (fun i => i = bw) w W
  gl : Gl W
  lies : Lies W bw (.mk k s n a ks) (.agg #[.int .i64 k, .string s, .int .i64 n, .int .i64 a, .slice A ks.length cap])
  walker : Boxed W bw 63 (.int .i64 seen)
  b0 : Boxed W B 61 (.pointer (some ⟨bw, 0, none⟩))
  b1 : W.heap[B + 1]? = some (.cells #[.int .i64 k, .string s, .int .i64 n, .int .i64 a, .slice A ks.length cap] 25 (0, 0))
  b2 : Boxed W (B + 1 + 1) 3 (.int .i64 deep)
  b3 : Boxed W (B + 1 + 1 + 1) 43 (.pointer none)

section
variable {B bw : Nat} {k : Int} {s : ByteArray} {n a : Int} {A : Option Addr} {cap : Nat} {ks : List Nd} {deep seen : Int} {w W W' : World}

theorem Fr.step (h : Fr B bw k s n a A cap ks deep seen w W) {C : Nat} (hb : Below C W W') (hC : B + 4 ≤ C) : Fr B bw k s n a A cap ks deep seen w W' := by
  have h1 := h.hB
  have h2 := h.h3
  exact ⟨h.hB, h.h3, Nat.le_trans h.size hb.size, h.foot.trans (Foot.of (hb.mono (by omega))), h.gl.below (by omega) hb, h.lies.below (hb.mono (by omega)),
    (hb.block _ (by omega)).trans h.walker, (hb.block _ (by omega)).trans h.b0, (hb.block _ (by omega)).trans h.b1, (hb.block _ (by omega)).trans h.b2, (hb.block _ (by omega)).trans h.b3⟩
theorem Fr.after (h : Fr B bw k s n a A cap ks deep seen w W) (hb : Below W.heap.size W W') : Fr B bw k s n a A cap ks deep seen w W' := h.step hb h.size
theorem Fr.alloc (h : Fr B bw k s n a A cap ks deep seen w W) (o : Obj) : Fr B bw k s n a A cap ks deep seen w (W.alloc o) := h.after ((Below.refl _ _).alloc (Nat.le_refl _) _)
/-- The walker has been written over, and what lay beyond W. -/
theorem Fr.walk (h : Fr B bw k s n a A cap ks deep seen w W) {C : Nat} {seen' : Int} (hf : Foot C (fun i => i = bw) W W') (hC : B + 4 ≤ C) (hw : Boxed W' bw 63 (.int .i64 seen')) : Fr B bw k s n a A cap ks deep seen' w W' := by
  have h1 := h.hB
  have h2 := h.h3
  have hb : Below bw W W' := hf.to (by omega) (fun i e => by omega)
  exact ⟨h.hB, h.h3, Nat.le_trans h.size hf.size, h.foot.trans (hf.mono (by omega) (fun _ _ e => e)), h.gl.below (by omega) hb, h.lies.below hb, hw,
    (hf.block _ (by omega) (by omega)).trans h.b0, (hf.block _ (by omega) (by omega)).trans h.b1, (hf.block _ (by omega) (by omega)).trans h.b2, (hf.block _ (by omega) (by omega)).trans h.b3⟩
theorem Fr.tick (h : Fr B bw k s n a A cap ks deep seen w W) (v : Int) : Fr B bw k s n a A cap ks deep v w (W.setCell ⟨bw, 0, none⟩ (.int .i64 v)) :=
  h.walk (Foot.set (g := fun i => i = bw) (p := ⟨bw, 0, none⟩) (Foot.refl W.heap.size _ W) (.inr rfl) _) h.size (h.walker.set _)
theorem Fr.cells (h : Fr B bw k s n a A cap ks deep seen w W) :
    W.cell? ⟨B, 0, none⟩ = some (.pointer (some ⟨bw, 0, none⟩)) ∧ W.cell? ⟨B + 1, 0, none⟩ = some (.int .i64 k) ∧ W.cell? ⟨B + 1, 1, none⟩ = some (.string s) ∧ W.cell? ⟨B + 1, 2, none⟩ = some (.int .i64 n) ∧
    W.cell? ⟨B + 1, 3, none⟩ = some (.int .i64 a) ∧ W.cell? ⟨B + 1, 4, none⟩ = some (.slice A ks.length cap) ∧ W.cell? ⟨B + 1 + 1, 0, none⟩ = some (.int .i64 deep) ∧
    W.cell? ⟨B + 1 + 1 + 1, 0, none⟩ = some (.pointer none) ∧ W.frozen? ⟨B + 1 + 1 + 1, 0, none⟩ = false ∧ W.cell? ⟨bw, 0, none⟩ = some (.int .i64 seen) ∧ W.frozen? ⟨bw, 0, none⟩ = false :=
  ⟨h.b0.cell, cell_of_row _ _ 0 _ _ _ h.b1, cell_of_row _ _ 1 _ _ _ h.b1, cell_of_row _ _ 2 _ _ _ h.b1, cell_of_row _ _ 3 _ _ _ h.b1, cell_of_row _ _ 4 _ _ _ h.b1, h.b2.cell, h.b3.cell, h.b3.frozen, h.walker.cell, h.walker.frozen⟩
end

theorem Fr.init {bw : Nat} {k : Int} {s : ByteArray} {n a : Int} {A : Option Addr} {cap : Nat} {ks : List Nd} {deep seen : Int} {w : World} (h3 : 5 ≤ bw) (hgl : Gl w)
    (hl : Lies w bw (.mk k s n a ks) (.agg #[.int .i64 k, .string s, .int .i64 n, .int .i64 a, .slice A ks.length cap])) (hw : Boxed w bw 63 (.int .i64 seen)) :
    Fr w.heap.size bw k s n a A cap ks deep seen w ((((w.alloc (.cells #[.pointer (some ⟨bw, 0, none⟩)] 61)).alloc (.cells #[.int .i64 k, .string s, .int .i64 n, .int .i64 a, .slice A ks.length cap] 25)).alloc (.cells #[.int .i64 deep] 3)).alloc (.cells #[.pointer none] 43)) := by
  have hb : Below w.heap.size w ((((w.alloc (.cells #[.pointer (some ⟨bw, 0, none⟩)] 61)).alloc (.cells #[.int .i64 k, .string s, .int .i64 n, .int .i64 a, .slice A ks.length cap] 25)).alloc (.cells #[.int .i64 deep] 3)).alloc (.cells #[.pointer none] 43)) :=
    ((((Below.refl _ _).alloc (Nat.le_refl _) _).alloc (by simp) _).alloc (by simp; omega) _).alloc (by simp; omega) _
  have hlt := hw.lt
  refine ⟨hlt, h3, by simp, Foot.of hb, hgl.up hb, hl.below (hb.mono (by omega)), (hb.block _ hlt).trans hw, ?_, ?_, ?_, ?_⟩
  · exact (((Boxed.new w _ _).alloc _).alloc _).alloc _
  · have h := heap_alloc_new (w.alloc (.cells #[.pointer (some ⟨bw, 0, none⟩)] 61)) (.cells #[.int .i64 k, .string s, .int .i64 n, .int .i64 a, .slice A ks.length cap] 25)
    rw [World.size_alloc] at h
    rw [heap_alloc_old _ _ (by simp), heap_alloc_old _ _ (by simp)]
    exact h
  · have h := Boxed.new ((w.alloc (.cells #[.pointer (some ⟨bw, 0, none⟩)] 61)).alloc (.cells #[.int .i64 k, .string s, .int .i64 n, .int .i64 a, .slice A ks.length cap] 25)) 3 (.int .i64 deep)
    simp only [World.size_alloc] at h
    exact h.alloc _
  · have h := Boxed.new (((w.alloc (.cells #[.pointer (some ⟨bw, 0, none⟩)] 61)).alloc (.cells #[.int .i64 k, .string s, .int .i64 n, .int .i64 a, .slice A ks.length cap] 25)).alloc (.cells #[.int .i64 deep] 3)) 43 (.pointer none)
    simp only [World.size_alloc] at h
    exact h

structure LookErr (w w' : World) (r : Int × Option Wr) (x : Wr) (b : Nat) : Prop where
  eq : r.2 = some x
  lo : w.heap.size ≤ b
  hi : b < w'.heap.size
  wr : WrongAt w' b x.code x.at_ x.name
structure LookOk (r : Int × Option Wr) : Prop where
  eq : r.2 = none

/-- What a call of look has left behind. -/
def LookPost (bw : Nat) (w : World) (r : Int × Option Wr) (e : Ending) (w' : World) : Prop :=
  Foot w.heap.size (fun i => i = bw) w w' ∧ Boxed w' bw 63 (.int .i64 r.1) ∧
  ((LookOk r ∧ e = .returned (.pointer none)) ∨ ∃ x b, LookErr w w' r x b ∧ e = .returned (.pointer (some ⟨b, 0, none⟩)))

/-- ints and floats answer so at a text. -/
def IntsAt (iB : ByteArray → Bool) (s : ByteArray) : Prop := ∀ w, Gl w → Calls Tryz.prog 115 #[.string s] w fun e w' => e = .returned (.bool (iB s)) ∧ Below w.heap.size w w'
def FloatsAt (fB : ByteArray → Bool) (s : ByteArray) : Prop := ∀ w, Gl w → Calls Tryz.prog 116 #[.string s] w fun e w' => e = .returned (.bool (fB s)) ∧ Below w.heap.size w w'
def NumsAt (iB fB : ByteArray → Bool) (t : Nd) : Prop := (t.kind = 35 → IntsAt iB t.text) ∧ (t.kind = 36 → FloatsAt fB t.text)

theorem wrong_new (c k : Int) (s : ByteArray) (n a : Int) (A : Option Addr) (len cap : Nat) (w : World) :
    Calls Tryz.prog 65 #[.int .i64 c, .agg #[.int .i64 k, .string s, .int .i64 n, .int .i64 a, .slice A len cap]] w fun e w' =>
      ∃ b, e = .returned (.pointer (some ⟨b, 0, none⟩)) ∧ w.heap.size ≤ b ∧ b < w'.heap.size ∧ WrongAt w' b c a (shortB s) ∧ Below w.heap.size w w' := by
  refine (wrong_any c k s n a A len cap w).mono ?_
  rintro e w' ⟨rfl, hw, hb⟩
  refine ⟨_, rfl, Nat.le_succ _, ?_, hw, hb⟩
  exact World.block_lt_of_cell? w' _ hw.1

theorem look_result (tmps : Array Value) (W : World) (g : Nat) (v : Value) (h8 : tmps.getD 8 undef = .pointer (some ⟨g, 0, none⟩)) (hc : W.cell? ⟨g, 0, none⟩ = some v) :
    (results Tryz.f32 tmps).run Tryz.prog W = .ok v W := by
  have h8' : tmps[8]?.getD undef = .pointer (some ⟨g, 0, none⟩) := by simpa using h8
  simp [results, Tryz.f32, go_sem, h8', hc]

theorem WrongAt.set {W : World} {b : Nat} {c a : Int} {nm : ByteArray} (h : WrongAt W b c a nm) {p : Addr} (hne : p.block ≠ b) (v : Value) : WrongAt (W.setCell p v) b c a nm := by
  obtain ⟨h1, h2, h3, h4, h5, h6⟩ := h
  have e : ∀ i, p ≠ ⟨b, i, none⟩ := fun i e => hne (by rw [e])
  refine ⟨?_, ?_, ?_, by rw [World.frozen?_setCell]; exact h4, by rw [World.frozen?_setCell]; exact h5, by rw [World.frozen?_setCell]; exact h6⟩
  · rw [World.cell?_setCell_other (h := e 0)]; exact h1
  · rw [World.cell?_setCell_other (h := e 1)]; exact h2
  · rw [World.cell?_setCell_other (h := e 2)]; exact h3

theorem look_leafW {B bw : Nat} {k : Int} {s : ByteArray} {n a : Int} {A : Option Addr} {cap : Nat} {ks : List Nd} {deep seen : Int} {w W : World} (fr : Fr B bw k s n a A cap ks deep seen w W) (hB : B = w.heap.size)
    {b : Nat} (hb : B + 4 ≤ b) (hlt : b < W.heap.size) {c a' : Int} {nm : ByteArray} (hw : WrongAt W b c a' nm) {r : Int × Option Wr} (hr : r = (seen, some ⟨c, a', nm⟩))
    (tmps : Array Value) (h8 : tmps.getD 8 undef = .pointer (some ⟨w.heap.size + 1 + 1 + 1, 0, none⟩)) :
    bodyPostM Fence.wide 6 Tryz.prog Tryz.f32 (LookPost bw w r) .ret { tmps := tmps, defers := [] } (W.setCell ⟨w.heap.size + 1 + 1 + 1, 0, none⟩ (.pointer (some ⟨b, 0, none⟩))) := by
  subst hB hr
  have h1 := fr.hB
  have hbx := fr.b3.set (.pointer (some ⟨b, 0, none⟩))
  refine ⟨_, look_result _ _ _ _ h8 hbx.cell, fr.foot.set (p := ⟨w.heap.size + 1 + 1 + 1, 0, none⟩) (.inl (by simp; omega)) _, ?_, .inr ⟨_, b, ⟨rfl, by omega, by simpa using hlt, hw.set (by simp; omega) _⟩, rfl⟩⟩
  exact fr.walker.other (by omega) _


theorem WrongAt.kept {W W' : World} {b : Nat} {c a : Int} {nm : ByteArray} (h : WrongAt W b c a nm) (hb : W'.heap[b]? = W.heap[b]?) : WrongAt W' b c a nm := by
  obtain ⟨h1, h2, h3, h4, h5, h6⟩ := h
  have e : ∀ i, W'.cell? ⟨b, i, none⟩ = W.cell? ⟨b, i, none⟩ := fun i => World.cell?_of_block (w := W) hb
  have e' : ∀ i, W'.frozen? ⟨b, i, none⟩ = W.frozen? ⟨b, i, none⟩ := fun i => World.frozen?_of_block (w := W) hb
  exact ⟨(e _).trans h1, (e _).trans h2, (e _).trans h3, (e' _).trans h4, (e' _).trans h5, (e' _).trans h6⟩
theorem WrongAt.ne {W : World} {b D : Nat} {c a : Int} {nm : ByteArray} (h : WrongAt W b c a nm) {o : Obj} (hD : W.heap[D]? = some o) (ho : o.isCells = false) : b ≠ D := by
  rintro rfl
  have h1 := h.1
  cases o <;> simp [World.cell?, hD, Obj.isCells] at h1 ho

/-- Between two rounds of look's loop. -/
def LoopI (iB fB : ByteArray → Bool) (bw : Nat) (k : Int) (s : ByteArray) (n a : Int) (A : Option Addr) (cap : Nat) (ks : List Nd) (deep : Int) (X H : Nat) (sh : Shp) (r : Int × Option Wr) (w : World) (pre : List (Ix ks.length)) (W : World) : Prop :=
  ∃ d sn : Int, Fr w.heap.size bw k s n a A cap ks deep sn w W ∧ Boxed W (X + 1) 3 (.int .i64 d) ∧ (d = 0 ∨ d = 1) ∧ 0 ≤ sn ∧ sn ≤ 20000 ∧ H ≤ W.heap.size ∧
    (pre.map Subtype.val = List.range pre.length → r = lookL iB fB (ks.drop pre.length) sh pre.length deep d sn)
/-- A round has left. -/
def LoopX (bw : Nat) (ks : List Nd) (H : Nat) (r : Int × Option Wr) (w : World) (c : Code) (pre : List (Ix ks.length)) (W : World) : Prop :=
  ∃ (sn : Int) (x : Wr) (b : Nat), c = .ret ∧ Foot w.heap.size (fun i => i = bw) w W ∧ Boxed W bw 63 (.int .i64 sn) ∧ bw < w.heap.size ∧ Boxed W (w.heap.size + 1 + 1 + 1) 43 (.pointer (some ⟨b, 0, none⟩)) ∧
    w.heap.size ≤ b ∧ b < W.heap.size ∧ WrongAt W b x.code x.at_ x.name ∧ H ≤ W.heap.size ∧ (pre.map Subtype.val = List.range pre.length → r = (sn, some x))

theorem LoopI.own {iB fB : ByteArray → Bool} {bw : Nat} {k : Int} {s : ByteArray} {n a : Int} {A : Option Addr} {cap : Nat} {ks : List Nd} {deep : Int} {X H : Nat} {sh : Shp} {r : Int × Option Wr} {w : World} (hX : X + 1 < H) (hH : w.heap.size + 4 ≤ H) :
    OwnFrom H (LoopI iB fB bw k s n a A cap ks deep X H sh r w) := by
  rintro pre W W' row ⟨d, sn, fr, hd, h1, h2, h3, h4, h5⟩ hg hr
  have hb : Below H W W' := (Below.refl H W).grown hg h4 (fun k e => (hr k e).1)
  exact ⟨d, sn, fr.step hb hH, (hb.block _ hX).trans hd, h1, h2, h3, Nat.le_trans h4 hb.size, h5⟩
theorem LoopX.own {bw : Nat} {ks : List Nd} {H : Nat} {r : Int × Option Wr} {w : World} (hH : w.heap.size + 4 ≤ H) (c : Code) : OwnFrom H (LoopX bw ks H r w c) := by
  rintro pre W W' row ⟨sn, x, b, h1, h2, h3, h4, h5, h6, h7, h8, h9, h10⟩ hg hr
  have hb : Below H W W' := (Below.refl H W).grown hg h9 (fun k e => (hr k e).1)
  refine ⟨sn, x, b, h1, h2.trans (Foot.of (hb.mono (by omega))), (hb.block _ (by omega)).trans h3, h4, (hb.block _ (by omega)).trans h5, h6, Nat.lt_of_lt_of_le h7 hb.size, h8.kept (hg.block b h7 ?_), Nat.le_trans h9 hb.size, h10⟩
  intro e
  obtain ⟨_, o, ho, hc⟩ := hr b e.symm
  exact h8.ne ho hc rfl

/-- Where look's loop begins. -/
theorem look_start {B bw : Nat} {k : Int} {s : ByteArray} {n a : Int} {A : Option Addr} {cap : Nat} {ks : List Nd} {deep seen : Int} {w W : World} (fr : Fr B bw k s n a A cap ks deep seen w W) (v0 v1 v2 v3 v4 v : Value) (T : TypeId) :
    Fr B bw k s n a A cap ks deep seen w ((((W.alloc (.cells #[v0, v1, v2, v3, v4] T)).alloc (.cells #[.int .i64 0] 3)).alloc (.cells #[v0, v1, v2, v3, v4] T)).alloc (.cells #[v] 3)) ∧
    Boxed ((((W.alloc (.cells #[v0, v1, v2, v3, v4] T)).alloc (.cells #[.int .i64 0] 3)).alloc (.cells #[v0, v1, v2, v3, v4] T)).alloc (.cells #[v] 3)) (W.heap.size + 1) 3 (.int .i64 0) ∧
    ((((W.alloc (.cells #[v0, v1, v2, v3, v4] T)).alloc (.cells #[.int .i64 0] 3)).alloc (.cells #[v0, v1, v2, v3, v4] T)).alloc (.cells #[v] 3)).cell? ⟨W.heap.size + 1 + 1, 0, none⟩ = some v0 ∧
    ((((W.alloc (.cells #[v0, v1, v2, v3, v4] T)).alloc (.cells #[.int .i64 0] 3)).alloc (.cells #[v0, v1, v2, v3, v4] T)).alloc (.cells #[v] 3)).cell? ⟨W.heap.size + 1 + 1, 1, none⟩ = some v1 ∧
    Boxed ((((W.alloc (.cells #[v0, v1, v2, v3, v4] T)).alloc (.cells #[.int .i64 0] 3)).alloc (.cells #[v0, v1, v2, v3, v4] T)).alloc (.cells #[v] 3)) (W.heap.size + 1 + 1 + 1) 3 v ∧
    Below W.heap.size W ((((W.alloc (.cells #[v0, v1, v2, v3, v4] T)).alloc (.cells #[.int .i64 0] 3)).alloc (.cells #[v0, v1, v2, v3, v4] T)).alloc (.cells #[v] 3)) ∧
    ((((W.alloc (.cells #[v0, v1, v2, v3, v4] T)).alloc (.cells #[.int .i64 0] 3)).alloc (.cells #[v0, v1, v2, v3, v4] T)).alloc (.cells #[v] 3)).heap.size = W.heap.size + 4 := by
  have hb : Below W.heap.size W ((((W.alloc (.cells #[v0, v1, v2, v3, v4] T)).alloc (.cells #[.int .i64 0] 3)).alloc (.cells #[v0, v1, v2, v3, v4] T)).alloc (.cells #[v] 3)) :=
    ((((Below.refl _ _).alloc (Nat.le_refl _) _).alloc (by simp) _).alloc (by simp; omega) _).alloc (by simp; omega) _
  have h1 := Boxed.new (W.alloc (.cells #[v0, v1, v2, v3, v4] T)) 3 (.int .i64 0)
  simp only [World.size_alloc] at h1
  have h2 := heap_alloc_new ((W.alloc (.cells #[v0, v1, v2, v3, v4] T)).alloc (.cells #[.int .i64 0] 3)) (.cells #[v0, v1, v2, v3, v4] T)
  simp only [World.size_alloc] at h2
  have h2' : ((((W.alloc (.cells #[v0, v1, v2, v3, v4] T)).alloc (.cells #[.int .i64 0] 3)).alloc (.cells #[v0, v1, v2, v3, v4] T)).alloc (.cells #[v] 3)).heap[W.heap.size + 1 + 1]? = some (.cells #[v0, v1, v2, v3, v4] T) := by
    rw [heap_alloc_old _ _ (by simp)]; exact h2
  have h3 := Boxed.new (((W.alloc (.cells #[v0, v1, v2, v3, v4] T)).alloc (.cells #[.int .i64 0] 3)).alloc (.cells #[v0, v1, v2, v3, v4] T)) 3 v
  simp only [World.size_alloc] at h3
  exact ⟨fr.after hb, (h1.alloc _).alloc _, cell_of_row _ _ 0 _ _ _ h2', cell_of_row _ _ 1 _ _ _ h2', h3, hb, by simp⟩

/-- The way out of a round that goes on. -/
theorem loop_next {iB fB : ByteArray → Bool} {bw : Nat} {k : Int} {s : ByteArray} {n a : Int} {A : Option Addr} {cap : Nat} {ks : List Nd} {deep : Int} {X H : Nat} {sh : Shp} {r : Int × Option Wr} {w W W1 w3 : World} {pre : List (Ix ks.length)} {i : Nat} {hi : i < ks.length}
    {d d' sn sn' : Int} {t : Nd} (hX : X + 1 < H) (hXb : w.heap.size + 4 ≤ X) (hHW : H ≤ W.heap.size) (hKO : KeepsOthers W W1) (hKF : Foot H (fun j => j = bw ∨ j = X + 1) W W1) (fr1 : Fr w.heap.size bw k s n a A cap ks deep sn w W1) (hd1 : Boxed W1 (X + 1) 3 (.int .i64 d'))
    (hf : Foot W1.heap.size (fun j => j = bw) W1 w3) (hw : Boxed w3 bw 63 (.int .i64 sn')) (hget : ks[i]? = some t) (hlook : t.look iB fB (deep + 1) (sh.at_ i) sn = (sn', none)) (hs : sn ≤ 20000) (hs0 : 0 ≤ sn)
    (hn : ¬ (isCase (sh.at_ i) t = true ∧ 1 ≤ d ∧ sn < 20000 ∧ deep < 60)) (hd : (if isCase (sh.at_ i) t = true then d + 1 else d) = d') (hd01 : d' = 0 ∨ d' = 1)
    (hr : pre.map Subtype.val = List.range pre.length → r = lookL iB fB (ks.drop pre.length) sh pre.length deep d sn) :
    KeepsFrom H W w3 ∧ Foot H (fun j => j = bw ∨ j = X + 1) W w3 ∧ LoopI iB fB bw k s n a A cap ks deep X H sh r w (pre ++ [⟨i, hi⟩]) w3 := by
  have hsz := hKO.size
  have hB := fr1.hB
  have hbd := Nd.look_bd iB fB t (deep + 1) (sh.at_ i) sn hs
  rw [hlook] at hbd
  have hwb := fr1.walker
  have hk2 : KeepsOthers W1 w3 := hf.keeps (fun j o e ho => by subst e; rw [show W1.heap[j]? = _ from hwb] at ho; cases ho; rfl)
  refine ⟨(hKO.trans hk2).from _, hKF.trans (hf.mono (by omega) (fun j _ e => .inl e)), d', sn', fr1.walk hf fr1.size hw, (hf.block _ (by omega) (by omega)).trans hd1, hd01, by omega, hbd.2, Nat.le_trans hHW (Nat.le_trans hsz hf.size), ?_⟩
  intro hpre
  have hl : (pre ++ [(⟨i, hi⟩ : Ix ks.length)]).length = pre.length + 1 := by simp
  rw [hl, List.range_succ, List.map_append] at hpre
  obtain ⟨hp1, hp2⟩ := List.append_inj' hpre rfl
  have hii : i = pre.length := by simpa using hp2
  rw [hl, hr hp1]
  subst hii
  exact lookL_next iB fB hget hn hlook hd

/-- The way out of a round that returns. -/
theorem loop_ret {bw : Nat} {k : Int} {s : ByteArray} {n a : Int} {A : Option Addr} {cap : Nat} {ks : List Nd} {deep : Int} {H : Nat} {r : Int × Option Wr} {w W W1 w3 : World} {pre : List (Ix ks.length)} {i : Nat} {hi : i < ks.length} {sn sn' : Int} {x : Wr} {pb : Nat}
    (_hH : w.heap.size + 4 ≤ H) (hHW : H ≤ W.heap.size) (hKO : KeepsOthers W W1) (fr1 : Fr w.heap.size bw k s n a A cap ks deep sn w W1)
    (hf : Foot W1.heap.size (fun j => j = bw) W1 w3) (hw : Boxed w3 bw 63 (.int .i64 sn')) (hp1 : W1.heap.size ≤ pb) (hp2 : pb < w3.heap.size) (hwr : WrongAt w3 pb x.code x.at_ x.name)
    (hr : pre.map Subtype.val = List.range pre.length → i = pre.length → r = (sn', some x)) :
    KeepsFrom H W (w3.setCell ⟨w.heap.size + 1 + 1 + 1, 0, none⟩ (.pointer (some ⟨pb, 0, none⟩))) ∧ LoopX bw ks H r w .ret (pre ++ [⟨i, hi⟩]) (w3.setCell ⟨w.heap.size + 1 + 1 + 1, 0, none⟩ (.pointer (some ⟨pb, 0, none⟩))) := by
  have hsz := hKO.size
  have hB := fr1.hB
  have hwb := fr1.walker
  have hk2 : KeepsOthers W1 w3 := hf.keeps (fun j o e ho => by subst e; rw [show W1.heap[j]? = _ from hwb] at ho; cases ho; rfl)
  have fr3 := fr1.walk hf fr1.size hw
  have hs1 := fr1.size
  refine ⟨((hKO.trans hk2).trans (KeepsOthers.setCell _ _ _)).from _, sn', x, pb, rfl, fr3.foot.set (p := ⟨w.heap.size + 1 + 1 + 1, 0, none⟩) (.inl (by simp; omega)) _, hw.other (by omega) _, hB, fr3.b3.set _, by omega, by simpa using hp2, hwr.set (by simp; omega) _, by simp; have := hf.size; omega, ?_⟩
  intro hpre
  have hl : (pre ++ [(⟨i, hi⟩ : Ix ks.length)]).length = pre.length + 1 := by simp
  rw [hl, List.range_succ, List.map_append] at hpre
  obtain ⟨hp1, hp2⟩ := List.append_inj' hpre rfl
  exact hr hp1 (by simpa using hp2)

theorem look_done {bw : Nat} {k : Int} {s : ByteArray} {n a : Int} {A : Option Addr} {cap : Nat} {ks : List Nd} {deep sn : Int} {w W : World} (fr : Fr w.heap.size bw k s n a A cap ks deep sn w W) {D : Nat} (hD : w.heap.size + 4 ≤ D) (hK : W.heap[D]? = some (.deferred (some [])))
    {r : Int × Option Wr} (hr : r = (sn, none)) (tmps : Array Value) (h8 : tmps.getD 8 undef = .pointer (some ⟨w.heap.size + 1 + 1 + 1, 0, none⟩)) :
    bodyPostM Fence.wide 6 Tryz.prog Tryz.f32 (LookPost bw w r) .ret { tmps := tmps, defers := [{ target := .collected D, args := #[] }] } (W.setCell ⟨w.heap.size + 1 + 1 + 1, 0, none⟩ (.pointer none)) := by
  subst hr
  have hB := fr.hB
  have hK' := (KeepsOthers.setCell W ⟨w.heap.size + 1 + 1 + 1, 0, none⟩ (.pointer none)).same D _ hK rfl
  have hg := grownBy_putObj' (W.setCell ⟨w.heap.size + 1 + 1 + 1, 0, none⟩ (.pointer none)) D (.deferred none)
  have hsz := fr.size
  refine ⟨by simp, .inl ⟨_, _, rfl, run_takeDeferred hK', ?_⟩⟩
  refine ⟨_, look_result _ _ _ _ h8 ((fr.b3.set (.pointer none)).kept hg (by simp; omega)).cell, (fr.foot.set (p := ⟨w.heap.size + 1 + 1 + 1, 0, none⟩) (.inl (by simp; omega)) _).grown hg (by simp; omega) (fun j e => by cases e; omega), ?_, .inl ⟨⟨rfl⟩, rfl⟩⟩
  exact (fr.walker.other (by omega) _).kept hg (by simp; omega)
theorem look_stop {bw : Nat} {ks : List Nd} {H : Nat} {r : Int × Option Wr} {w W : World} {c : Code} {pre : List (Ix ks.length)} (hH : w.heap.size + 4 ≤ H) (hx : LoopX bw ks H r w c pre W) {j : Nat} (hpre : pre.map Subtype.val = List.range j) {D : Nat} (hD : H ≤ D) (hK : W.heap[D]? = some (.deferred (some [])))
    (tmps : Array Value) (h8 : tmps.getD 8 undef = .pointer (some ⟨w.heap.size + 1 + 1 + 1, 0, none⟩)) :
    bodyPostM Fence.wide 6 Tryz.prog Tryz.f32 (LookPost bw w r) .ret { tmps := tmps, defers := [{ target := .collected D, args := #[] }] } W := by
  obtain ⟨sn, x, b, _, hf, hw, hbw, hbx, hb1, hb2, hwr, hHW, hr⟩ := hx
  have hj : j = pre.length := by have := congrArg List.length hpre; simpa using this.symm
  subst hj
  have hr' := hr hpre
  subst hr'
  have hg := grownBy_putObj' W D (.deferred none)
  refine ⟨by simp, .inl ⟨_, _, rfl, run_takeDeferred hK, ?_⟩⟩
  refine ⟨_, look_result _ _ _ _ h8 (hbx.kept hg (by simp; omega)).cell, hf.grown hg (by omega) (fun j e => by cases e; omega), hw.kept hg (by simp; omega), .inr ⟨x, b, ⟨rfl, hb1, Nat.lt_of_lt_of_le hb2 hg.size, hwr.kept (hg.block b hb2 (by simp; exact hwr.ne hK rfl))⟩, rfl⟩⟩

theorem look_kid {B bw : Nat} {k : Int} {s : ByteArray} {n a : Int} {A : Option Addr} {cap : Nat} {ks : List Nd} {deep seen : Int} {w W : World} (fr : Fr B bw k s n a A cap ks deep seen w W) {i : Nat} (hi : i < ks.length) :
    ∃ (k1 : Int) (s1 : ByteArray) (n1 a1 : Int) (A1 : Option Addr) (cap1 : Nat) (ks1 : List Nd) (L1 b o : Nat), A = some ⟨b, o, none⟩ ∧ b < bw ∧ ks[i]? = some (.mk k1 s1 n1 a1 ks1) ∧
      W.cell? ⟨b, o + i * 5, none⟩ = some (.int .i64 k1) ∧ W.cell? ⟨b, o + i * 5 + 1, none⟩ = some (.string s1) ∧ W.cell? ⟨b, o + i * 5 + 2, none⟩ = some (.int .i64 n1) ∧
      W.cell? ⟨b, o + i * 5 + 3, none⟩ = some (.int .i64 a1) ∧ W.cell? ⟨b, o + i * 5 + 4, none⟩ = some (.slice A1 L1 cap1) ∧
      Lies W bw (.mk k1 s1 n1 a1 ks1) (.agg #[.int .i64 k1, .string s1, .int .i64 n1, .int .i64 a1, .slice A1 L1 cap1]) ∧
      ((ks1 = [] ∧ L1 = 0) ∨ ∃ y ys b1 o1, ks1 = y :: ys ∧ 0 < L1 ∧ A1 = some ⟨b1, o1, none⟩ ∧ b1 < bw ∧ W.cell? ⟨b1, o1, none⟩ = some (.int .i64 y.kind)) := by
  have hl := fr.lies
  unfold Lies at hl
  obtain ⟨A2, cap2, he, _, _, _, _, _, _, hkids⟩ := hl
  simp only [Value.agg.injEq, Array.mk.injEq, List.cons.injEq, Value.slice.injEq, and_true, true_and] at he
  obtain ⟨rfl, rfl⟩ := he
  rcases hkids with rfl | ⟨b, o, rfl, hb, hkl⟩
  · simp at hi
  · obtain ⟨k1, s1, n1, a1, A1, cap1, ks1, hget, c0, c1, c2, c3, c4, hl1⟩ := LiesL.get i hi hkl
    refine ⟨k1, s1, n1, a1, A1, cap1, ks1, ks1.length, b, o, rfl, hb, hget, c0, c1, c2, c3, c4, hl1, ?_⟩
    unfold Lies at hl1
    obtain ⟨A2, cap2, he, _, _, _, _, _, _, hkids⟩ := hl1
    simp only [Value.agg.injEq, Array.mk.injEq, List.cons.injEq, Value.slice.injEq, and_true, true_and] at he
    obtain ⟨rfl, rfl⟩ := he
    rcases hkids with rfl | ⟨b1, o1, rfl, hb1, hkl1⟩
    · exact .inl ⟨rfl, rfl⟩
    · cases ks1 with
      | nil => exact .inl ⟨rfl, rfl⟩
      | cons y ys =>
        obtain ⟨k2, s2, n2, a2, A2, cap2, ks2, hget2, e0, _⟩ := LiesL.get 0 (by simp) hkl1
        simp at hget2
        subst hget2
        refine .inr ⟨_, ys, b1, o1, rfl, by simp, rfl, hb1, ?_⟩
        have h0 : W.cell? ⟨b1, o1, none⟩ = some (.int .i64 k2) := by simpa using e0
        exact h0
theorem look_err_many (iB fB : ByteArray → Bool) {t : Nd} {deep q seen : Int} (h : 20000 ≤ seen) : (t.look iB fB deep q seen).2 ≠ none := by
  cases t; rw [look_many iB fB h]; simp
theorem look_err_deep (iB fB : ByteArray → Bool) {t : Nd} {deep q seen : Int} (h : seen < 20000) (h2 : 60 < deep) : (t.look iB fB deep q seen).2 ≠ none := by
  cases t; rw [look_deep iB fB h h2]; simp

end Go.Proofs.YtokhfhibdeneeaaGreatDoor

namespace Go.Proofs.YtokhfhibdeneeaaGreatDoor
open Go.RowKit Go.Shelf
attribute [local go_sem] Oper.semAt_some

set_option maxRecDepth 100000 in
set_option maxHeartbeats 8000000 in
theorem look_any (iB fB : ByteArray → Bool) : ∀ (t : Nd), t.Each (NumsAt iB fB) → ∀ (v : Value) (deep q seen : Int) (bw : Nat) (w : World), Gl w → 5 ≤ bw → Lies w bw t v →
    Boxed w bw 63 (.int .i64 seen) → 0 ≤ deep → deep ≤ 100 → 0 ≤ seen → seen ≤ 20000 → 0 ≤ q ∧ q ≤ 29 →
    Calls Tryz.prog 32 #[.pointer (some ⟨bw, 0, none⟩), v, .int .i64 deep, .int .i64 q] w (LookPost bw w (t.look iB fB deep q seen)) := by
  intro t
  induction t using Nd.induct with
  | h k s n a ks ih =>
  intro heach v deep q seen bw w hgl h3 hl hw hd0 hd1 hs0 hs1 hq
  obtain ⟨A, cap, rfl, hvk, hvn, hva, hss, hcl, hcc, hkids⟩ : ∃ (A : Option Addr) (cap : Nat), v = .agg #[.int .i64 k, .string s, .int .i64 n, .int .i64 a, .slice A ks.length cap] ∧
      okI k ∧ okI n ∧ okI a ∧ s.size ≤ 140737488351232 ∧ ks.length ≤ cap ∧ cap ≤ 9223372036854775807 ∧
      (ks = [] ∨ ∃ b o, A = some ⟨b, o, none⟩ ∧ b < bw ∧ LiesL w bw ks b o) := by
    unfold Lies at hl; exact hl
  have hnums : NumsAt iB fB (.mk k s n a ks) := by unfold Nd.Each at heach; exact heach.1
  obtain ⟨sh, HSH⟩ : ∃ sh, Hid (shapeOf k s ks q = sh) := ⟨_, rfl⟩
  obtain ⟨r, HR⟩ : ∃ r, Hid (Nd.look iB fB (.mk k s n a ks) deep q seen = r) := ⟨_, rfl⟩
  rw [HR.out]
  have HFR := Lib.hid (Fr.init (deep := deep) h3 hgl hl hw)
  have HIH := Lib.hid ih
  have HE := Lib.hid heach
  have HN := Lib.hid hnums
  have HK := Lib.hid hkids
  have HQ := Lib.hid hq
  have HS := Lib.hid hss
  obtain ⟨f1, f2, f3, f4, f5, f6, f7, f8, f9, f10, f11⟩ := HFR.out.cells
  clear hgl hl ih heach hnums hkids hq hw hvk hvn hva hss
  refine (callsIn_wide (n := 6)).1 ?_
  refine callsIn_of_wp_marks Tryz.func32 rfl trivial ?_ rfl
  simp only [Tryz.ntmps32, List.size_toArray, List.length_cons, List.length_nil, Nat.reduceAdd, Nat.reduceSub, Array.replicate_succ, Array.replicate_zero, List.push_toArray, List.append_toArray, List.nil_append, List.cons_append]
  gi_wp2_with (first
    | (refine ⟨trivial, ?_⟩; gi_at_call 65; refine (callsIn_wide.2 (wrong_new _ _ _ _ _ _ _ _ _)).mono ?_; rintro e w' ⟨pb, rfl, hp1, hp2, hwr, hb⟩
       first
         | have HX := Lib.hid (HFR.out.after hb)
         | (have HX := Lib.hid ((HFR.out.alloc _).after hb); clear g1 g2 g3 g4 g5 g6 g7 g8 g9 g10 g11 k1 k2 k3 k4 k5 k6 k7 k8 k9 k10 k11)
       have HP1 := Lib.hid (show w.heap.size + 4 ≤ pb by have h1 := HFR.out.size; have h2 := hp1; (try simp only [World.size_alloc] at h1 h2); omega)
       have HP2 := Lib.hid hp2
       have HWR := Lib.hid hwr
       clear f1 f2 f3 f4 f5 f6 f7 f8 f9 f10 f11
       obtain ⟨f1, f2, f3, f4, f5, f6, f7, f8, f9, f10, f11⟩ := HX.out.cells
       clear hp1 hp2 hwr hb)
    | (refine ⟨trivial, ?_⟩; gi_at_call 66; refine (callsIn_wide.2 (may_any k s n a A ks.length cap q HQ.out _)).mono ?_; rintro e w' ⟨rfl, hb⟩
       have HFR := Lib.hid (HFR.out.after hb)
       clear f1 f2 f3 f4 f5 f6 f7 f8 f9 f10 f11
       obtain ⟨f1, f2, f3, f4, f5, f6, f7, f8, f9, f10, f11⟩ := HFR.out.cells
       clear hb)
    | (refine ⟨trivial, ?_⟩; gi_at_call 67; refine (callsIn_wide.2 (text_any iB fB k s n a A ks.length cap q _ HFR.out.gl HS.out HN.out.1 HN.out.2)).mono ?_; rintro e w' ⟨rfl, hb⟩
       have HFR := Lib.hid (HFR.out.after hb)
       clear f1 f2 f3 f4 f5 f6 f7 f8 f9 f10 f11
       obtain ⟨f1, f2, f3, f4, f5, f6, f7, f8, f9, f10, f11⟩ := HFR.out.cells
       clear hb)
    | (refine ⟨trivial, ?_⟩; gi_at_call 68; refine (callsIn_wide.2 (number_any k s n a A ks.length cap _)).mono ?_; rintro e w' ⟨rfl, hb⟩
       have HFR := Lib.hid (HFR.out.after hb)
       clear f1 f2 f3 f4 f5 f6 f7 f8 f9 f10 f11
       obtain ⟨f1, f2, f3, f4, f5, f6, f7, f8, f9, f10, f11⟩ := HFR.out.cells
       obtain ⟨g1, g2, g3, g4, g5, g6, g7, g8, g9, g10, g11⟩ := (HFR.out.tick (seen + 1)).cells
       clear hb)
    | (refine ⟨trivial, ?_⟩; gi_at_call 69; have HFR := Lib.hid (HFR.out.tick (seen + 1)); refine (callsIn_wide.2 (shaped_any k s n a A cap ks q _ HFR.out.gl (HFR.out.lies.more (by have := HFR.out.size; have := HFR.out.hB; omega)))).mono ?_; rintro e w' ⟨v, rfl, ⟨A', cap', rfl, hlen, hfirst⟩, hb⟩
       rw [HSH.out] at hlen hfirst ⊢
       have hfirst : sh.first = [] ∨ ∃ b, A' = some ⟨b, 0, none⟩ ∧ w.heap.size + 4 ≤ b ∧ b < w'.heap.size ∧ CellsAt w' b sh.first 0 := hfirst.imp id (fun ⟨b, h1, h2, h3, h4⟩ => ⟨b, h1, Nat.le_trans HFR.out.size h2, h3, h4⟩)
       have HFR := Lib.hid (HFR.out.after hb)
       clear f1 f2 f3 f4 f5 f6 f7 f8 f9 f10 f11
       obtain ⟨f1, f2, f3, f4, f5, f6, f7, f8, f9, f10, f11⟩ := HFR.out.cells
       have HF := Lib.hid hfirst
       have HL := Lib.hid hlen
       clear hb hlen hfirst g1 g2 g3 g4 g5 g6 g7 g8 g9 g10 g11
       obtain ⟨g1, g2, g3, g4, g5, g6, g7, g8, g9, g10, g11⟩ := (HFR.out.alloc (.cells #[.slice A' sh.first.length cap', .int .i64 sh.rest, .int .i64 sh.least, .int .i64 sh.most, .int .i64 sh.many] 99)).cells
       obtain ⟨k1, k2, k3, k4, k5, k6, k7, k8, k9, k10, k11⟩ := ((HFR.out.alloc (.cells #[.slice A' sh.first.length cap', .int .i64 sh.rest, .int .i64 sh.least, .int .i64 sh.most, .int .i64 sh.many] 99)).alloc (.cells #[.int .i64 0] 3)).cells)
    | (refine ⟨trivial, ?_⟩; gi_at_call 70; refine (callsIn_wide.2 (over_any _ _ _ _ _ _ _ _ _)).mono ?_; rintro e w'' ⟨rfl, rfl⟩)
    | (refine ⟨trivial, ?_⟩))
  all_goals first
    | exact look_leafW HX.out rfl HP1.out HP2.out HWR.out (HR.out.symm.trans (look_many iB fB (by assumption))) _ rfl
    | exact look_leafW HX.out rfl HP1.out HP2.out HWR.out (HR.out.symm.trans (look_deep iB fB (by assumption) (by assumption))) _ rfl
    | exact look_leafW HX.out rfl HP1.out HP2.out HWR.out (HR.out.symm.trans (look_kind iB fB (by assumption) (by assumption) (.inr (.inr (by rename_i h; simpa using h))))) _ rfl
    | exact look_leafW HX.out rfl HP1.out HP2.out HWR.out (HR.out.symm.trans (look_kind iB fB (by assumption) (by assumption) (.inr (.inl (by rename_i h; simpa using h))))) _ rfl
    | exact look_leafW HX.out rfl HP1.out HP2.out HWR.out (HR.out.symm.trans (look_kind iB fB (by assumption) (by assumption) (.inl (by rename_i h; simpa using h)))) _ rfl
    | exact look_leafW HX.out rfl HP1.out HP2.out HWR.out (HR.out.symm.trans ((look_in iB fB (by assumption) (by assumption) (by assumption) (by assumption) (by have h := ‹(!numberB k n) = false›; simpa using h) HSH.out).trans (if_pos (by assumption)))) _ rfl
    | exact look_leafW HX.out rfl HP1.out HP2.out HWR.out (HR.out.symm.trans ((look_in iB fB (by assumption) (by assumption) (by assumption) (by assumption) (by have h := ‹(!numberB k n) = false›; simpa using h) HSH.out).trans ((if_neg (by omega)).trans (if_pos ⟨by assumption, by assumption⟩)))) _ rfl
    | skip
  all_goals
    have hfw := HFR.out
    have hstart := look_start hfw (.slice A' sh.first.length cap') (.int .i64 sh.rest) (.int .i64 sh.least) (.int .i64 sh.most) (.int .i64 sh.many) (.int .i64 ks.length) 99
    have hFi := HF.out
    have hLe := HL.out
    have hr0 : r = lookL iB fB ks sh 0 deep 0 (seen + 1) := HR.out.symm.trans ((look_in iB fB (by assumption) (by assumption) (by assumption) (by assumption) (by have h := ‹(!numberB k n) = false›; simpa using h) HSH.out).trans ((if_neg (by omega)).trans (if_neg (by omega))))
    have hseen1 : seen + 1 ≤ 20000 := by omega
    have hdeep60 : deep ≤ 60 := by assumption
    clear HFR HF HL HR g1 g2 g3 g4 g5 g6 g7 g8 g9 g10 g11 k1 k2 k3 k4 k5 k6 k7 k8 k9 k10 k11 f1 f2 f3 f4 f5 f6 f7 f8 f9 f10 f11
    have hXb : w.heap.size + 4 ≤ w'.heap.size := hfw.size
    have hbwB := hfw.hB
    generalize ((((w'.alloc (.cells #[.slice A' sh.first.length cap', .int .i64 sh.rest, .int .i64 sh.least, .int .i64 sh.most, .int .i64 sh.many] 99)).alloc (.cells #[.int .i64 0] 3)).alloc (.cells #[.slice A' sh.first.length cap', .int .i64 sh.rest, .int .i64 sh.least, .int .i64 sh.most, .int .i64 sh.many] 99)).alloc (.cells #[.int .i64 ks.length] 3)) = W5 at hstart ⊢
    obtain ⟨fr5, hd5, hs0c, hs1c, hm5, hb5, hz5⟩ := hstart
    refine rangeFunc_found (F := Fence.wide) (n := 6) rfl (by omega) (gf := 121) (lb := #[.pointer (some ⟨w'.heap.size + 1 + 1 + 1, 0, none⟩), .pointer (some ⟨w'.heap.size + 1 + 1, 0, none⟩)]) rfl trivial (enters_of Tryz.func121 (by kernel_rfl) rfl)
      (over_stops Fence.wide _ trivial rfl (by omega) (w'.heap.size + 1 + 1 + 1) (w'.heap.size + 1 + 1) W5.heap.size ks.length (fun j => j = bw ∨ j = w'.heap.size + 1) sh A' cap' (by omega) W5 hm5.cell hm5.lt (by omega) (by omega) (Nat.le_refl _) hs0c hs1c hLe ?first)
      (fun h h' => h.trans h') (footK_b (Nat.le_refl _)) (Below.refl _ _) (fun _ => rfl)
      (LoopI iB fB bw k s n a A cap ks deep w'.heap.size W5.heap.size sh r w) (LoopX bw ks W5.heap.size r w)
      (LoopI.own (by omega) (by omega)) (fun c => LoopX.own (by omega) c) ⟨0, seen + 1, fr5, hd5, .inl rfl, by omega, hseen1, Nat.le_refl _, fun _ => hr0⟩ ?ab ?done ?stop
    case first =>
      rcases hFi with h | ⟨b, h1, h2, h3, h4⟩
      · exact .inl h
      · exact .inr ⟨b, h1, by omega, by omega, h4.below hb5 (by omega)⟩
    case ab =>
      apply Exists.intro
      refine And.intro ?_ ?_
      · intro l x W K hK
        gi_wp2
        exact hK.out
      · rintro l pre ⟨i, hi⟩ W ⟨d, sn, fr, hd, hd01, hs0', hs1', hHW, hrr⟩ hlt
        dsimp only
        obtain ⟨k1, s1, n1, a1, A1, cap1, ks1, L1, b, o, hA, hbb, hget, c0, c1, c2, c3, c4, hl1, hk1⟩ := look_kid fr hi
        subst hA
        obtain ⟨st, HST⟩ : ∃ st, Hid (sh.at_ i = st) := ⟨_, rfl⟩
        rw [HST.out]
        have hstb : 0 ≤ st ∧ st ≤ 29 := by rw [← HST.out, ← HSH.out]; exact (shapeOf_bd _ _ _ _).at_ i
        have HSTB := Lib.hid hstb
        obtain ⟨c, HC⟩ : ∃ c, Hid (isCase st (.mk k1 s1 n1 a1 ks1) = c) := ⟨_, rfl⟩
        have hcs : ((st == 19) = false ∧ (st == 20) = false ∧ c = false) ∨ ((st = 19 ∨ st = 20) ∧ (((k1 == 27) = false ∧ c = false) ∨ (k1 = 27 ∧ L1 = 0 ∧ c = false) ∨ (k1 = 27 ∧ ∃ ky b1 o1, 0 < L1 ∧ A1 = some ⟨b1, o1, none⟩ ∧ b1 < bw ∧ W.cell? ⟨b1, o1, none⟩ = some (.int .i64 ky) ∧ (ky == 16) = false ∧ c = false) ∨ (k1 = 27 ∧ ∃ b1 o1, 0 < L1 ∧ A1 = some ⟨b1, o1, none⟩ ∧ b1 < bw ∧ W.cell? ⟨b1, o1, none⟩ = some (.int .i64 16) ∧ c = true))) := by
          rcases isCase_cases HC.out with h | ⟨h, h' | ⟨e, e', h'⟩ | ⟨e, y, ys, e', h', h''⟩ | ⟨e, y, ys, e', h', h''⟩⟩
          · exact .inl h
          · exact .inr ⟨h, .inl h'⟩
          · rcases hk1 with ⟨h1, h2⟩ | ⟨y2, ys2, b1, o1, h1, h2, h3, h4, h5⟩
            · exact .inr ⟨h, .inr (.inl ⟨e, h2, h'⟩)⟩
            · rw [e'] at h1; cases h1
          · rcases hk1 with ⟨h1, h2⟩ | ⟨y2, ys2, b1, o1, h1, h2, h3, h4, h5⟩
            · rw [e'] at h1; cases h1
            · rw [e'] at h1; cases h1
              exact .inr ⟨h, .inr (.inr (.inl ⟨e, _, b1, o1, h2, h3, h4, h5, h', h''⟩))⟩
          · rcases hk1 with ⟨h1, h2⟩ | ⟨y2, ys2, b1, o1, h1, h2, h3, h4, h5⟩
            · rw [e'] at h1; cases h1
            · rw [e'] at h1; cases h1
              rw [h'] at h5
              exact .inr ⟨h, .inr (.inr (.inr ⟨e, b1, o1, h2, h3, h4, h5, h''⟩))⟩
        have HEK := Lib.hid (EachL.get (by have h := HE.out; unfold Nd.Each at h; exact h.2) hget)
        have HMEM := Lib.hid (List.mem_of_getElem? hget)
        have HGET := Lib.hid hget
        have HRR := Lib.hid hrr
        have hbx := fr.b0.lt
        have HFR1 := Lib.hid (fr.alloc (.cells #[.int .i64 k1, .string s1, .int .i64 n1, .int .i64 a1, .slice A1 L1 cap1] 25))
        have HBE := Lib.hid ((Below.refl bw W).alloc (by omega) (.cells #[.int .i64 k1, .string s1, .int .i64 n1, .int .i64 a1, .slice A1 L1 cap1] 25))
        have hd1 := hd.alloc (.cells #[.int .i64 k1, .string s1, .int .i64 n1, .int .i64 a1, .slice A1 L1 cap1] 25)
        have HFR2 := Lib.hid (HFR1.out.step (W' := (W.alloc (.cells #[.int .i64 k1, .string s1, .int .i64 n1, .int .i64 a1, .slice A1 L1 cap1] 25)).setCell ⟨w'.heap.size + 1, 0, none⟩ (.int .i64 (d + 1))) ((Below.refl (w.heap.size + 4) _).setCell (p := ⟨w'.heap.size + 1, 0, none⟩) (by simp; omega) _) (Nat.le_refl _))
        have hd2 := hd1.set (.int .i64 (d + 1))
        have HL1 := Lib.hid (hl1.below HBE.out)
        have HL2 := Lib.hid (HL1.out.below ((Below.refl bw _).setCell (p := ⟨w'.heap.size + 1, 0, none⟩) (by simp; omega) (.int .i64 (d + 1))))
        have HKO1 := Lib.hid (KeepsOthers.alloc W (.cells #[.int .i64 k1, .string s1, .int .i64 n1, .int .i64 a1, .slice A1 L1 cap1] 25))
        have HKO2 := Lib.hid (HKO1.out.trans (KeepsOthers.setCell _ ⟨w'.heap.size + 1, 0, none⟩ (.int .i64 (d + 1))))
        have HKF1 := Lib.hid ((Foot.refl W5.heap.size (fun j => j = bw ∨ j = w'.heap.size + 1) W).alloc hHW (.cells #[.int .i64 k1, .string s1, .int .i64 n1, .int .i64 a1, .slice A1 L1 cap1] 25))
        have HKF2 := Lib.hid (HKF1.out.set (p := ⟨w'.heap.size + 1, 0, none⟩) (.inr (.inr rfl)) (.int .i64 (d + 1)))
        have HD1 := Lib.hid hd1
        have HD2 := Lib.hid hd2
        obtain ⟨f1, f2, f3, f4, f5, f6, f7, f8, f9, f10, f11⟩ := fr.cells
        obtain ⟨g1, g2, g3, g4, g5, g6, g7, g8, g9, g10, g11⟩ := HFR1.out.cells
        obtain ⟨p1, p2, p3, p4, p5, p6, p7, p8, p9, p10, p11⟩ := HFR2.out.cells
        have hdc := hd1.cell
        have hdf := hd1.frozen
        have hdc2 := hd2.cell
        have HFR := Lib.hid fr
        have HQ2 : Hid (∀ b1 o1 v, b1 < bw → W.cell? ⟨b1, o1, none⟩ = some v → (W.alloc (.cells #[.int .i64 k1, .string s1, .int .i64 n1, .int .i64 a1, .slice A1 L1 cap1] 25)).cell? ⟨b1, o1, none⟩ = some v ∧ ((W.alloc (.cells #[.int .i64 k1, .string s1, .int .i64 n1, .int .i64 a1, .slice A1 L1 cap1] 25)).setCell ⟨w'.heap.size + 1, 0, none⟩ (.int .i64 (d + 1))).cell? ⟨b1, o1, none⟩ = some v) := fun b1 o1 v h3 h4 => by
          have h5 := HBE.out.cell (p := ⟨b1, o1, none⟩) h3
          have h6 := ((Below.refl bw (W.alloc (.cells #[.int .i64 k1, .string s1, .int .i64 n1, .int .i64 a1, .slice A1 L1 cap1] 25))).setCell (p := ⟨w'.heap.size + 1, 0, none⟩) (by simp; omega) (.int .i64 (d + 1))).cell (p := ⟨b1, o1, none⟩) h3
          exact ⟨h5.trans h4, h6.trans (h5.trans h4)⟩
        clear fr hd hrr hget hl1 hk1 hd1 hd2 hstb hr0 hm5 hs0c hs1c hb5 fr5 hd5 hfw
        have hXH : w'.heap.size + 1 < W5.heap.size := by omega
        have hH4 : w.heap.size + 4 ≤ W5.heap.size := by omega
        have hdb : d ≤ 1 := by omega
        have HD01 := Lib.hid hd01
        rcases hcs with ⟨e1, e2, rfl⟩ | ⟨rfl | rfl, ⟨e1, rfl⟩ | ⟨rfl, rfl, rfl⟩ | ⟨rfl, ky, b1, o1, hL, rfl, q1, q2, e1, rfl⟩ | ⟨rfl, b1, o1, hL, rfl, q1, q2, hEm⟩⟩
        all_goals first
          | (obtain ⟨q3, q4⟩ := HQ2.out _ _ _ q1 q2
             have hL' : (0 : Int) < (L1 : Int) := by omega
             clear HQ2)
          | clear HQ2
        all_goals first
          | (subst hEm; rcases hd01 with rfl | rfl)
          | (have HNOT : Hid (¬ (isCase (sh.at_ i) (.mk k1 s1 n1 a1 ks1) = true ∧ 1 ≤ d ∧ sn < 20000 ∧ deep < 60)) := by rw [HST.out, HC.out]; simp [Hid]
             have HIF : Hid ((if isCase (sh.at_ i) (.mk k1 s1 n1 a1 ks1) = true then d + 1 else d) = d) := by rw [HST.out, HC.out]; simp [Hid])
          | (have HNOT : Hid (¬ (isCase (sh.at_ i) (.mk 27 s1 n1 a1 ks1) = true ∧ 1 ≤ d ∧ sn < 20000 ∧ deep < 60)) := by rw [HST.out, HC.out]; simp [Hid]
             have HIF : Hid ((if isCase (sh.at_ i) (.mk 27 s1 n1 a1 ks1) = true then d + 1 else d) = d) := by rw [HST.out, HC.out]; simp [Hid])
        all_goals have HC1 := Lib.hid (HIH.out _ HMEM.out HEK.out _ (deep + 1) _ sn bw _ HFR1.out.gl h3 HL1.out HFR1.out.walker (by omega) (by omega) hs0' hs1' HSTB.out)
        all_goals have HC2 := Lib.hid (HIH.out _ HMEM.out HEK.out _ (deep + 1) _ sn bw _ HFR2.out.gl h3 HL2.out HFR2.out.walker (by omega) (by omega) hs0' hs1' HSTB.out)
        all_goals clear HD01
        all_goals gi_wp2_with (first
          | (refine ⟨trivial, ?_⟩; gi_at_call 32; refine (CallsIn.inRound l (callsIn_wide.2 HC1.out)).mono ?_; rintro e w3 ⟨hfoot, hwk, hres⟩; clear HFR2 HL2 HKO2 HKF2 HD2 HC1 HC2; have HFRW := HFR1; have HKO := HKO1; have HKF := HKF1; have HD := HD1
             have HFR3 := Lib.hid (HFR1.out.walk hfoot HFR1.out.size hwk)
             have HFT := Lib.hid hfoot
             have HWK := Lib.hid hwk
             clear f1 f2 f3 f4 f5 f6 f7 f8 f9 f10 f11 g1 g2 g3 g4 g5 g6 g7 g8 g9 g10 g11 p1 p2 p3 p4 p5 p6 p7 p8 p9 p10 p11 hdc hdf hdc2 hfoot hwk
             obtain ⟨f1, f2, f3, f4, f5, f6, f7, f8, f9, f10, f11⟩ := HFR3.out.cells
             rcases hres with ⟨hok, rfl⟩ | ⟨x, pb, herr, rfl⟩)
          | (refine ⟨trivial, ?_⟩; gi_at_call 32; refine (CallsIn.inRound l (callsIn_wide.2 HC2.out)).mono ?_; rintro e w3 ⟨hfoot, hwk, hres⟩; clear HFR1 HL1 HKO1 HKF1 HD1 HC1 HC2; have HFRW := HFR2; have HKO := HKO2; have HKF := HKF2; have HD := HD2
             have HFR3 := Lib.hid (HFR2.out.walk hfoot HFR2.out.size hwk)
             have HFT := Lib.hid hfoot
             have HWK := Lib.hid hwk
             clear f1 f2 f3 f4 f5 f6 f7 f8 f9 f10 f11 g1 g2 g3 g4 g5 g6 g7 g8 g9 g10 g11 p1 p2 p3 p4 p5 p6 p7 p8 p9 p10 p11 hdc hdf hdc2 hfoot hwk
             obtain ⟨f1, f2, f3, f4, f5, f6, f7, f8, f9, f10, f11⟩ := HFR3.out.cells
             rcases hres with ⟨hok, rfl⟩ | ⟨x, pb, herr, rfl⟩)
          | (refine ⟨trivial, ?_⟩; gi_at_call 65; refine (CallsIn.inRound l (callsIn_wide.2 (wrong_new _ _ _ _ _ _ _ _ _))).mono ?_; rintro e w3 ⟨pb, rfl, hp1, hp2, hwr, hb⟩
             have HFR3 := Lib.hid (HFR2.out.after hb)
             have HP1 := Lib.hid hp1
             have HP2 := Lib.hid hp2
             have HWR := Lib.hid hwr
             have HB := Lib.hid hb
             clear f1 f2 f3 f4 f5 f6 f7 f8 f9 f10 f11 g1 g2 g3 g4 g5 g6 g7 g8 g9 g10 g11 p1 p2 p3 p4 p5 p6 p7 p8 p9 p10 p11 hp1 hp2 hwr hb
             obtain ⟨f1, f2, f3, f4, f5, f6, f7, f8, f9, f10, f11⟩ := HFR3.out.cells)
          | (refine ⟨trivial, ?_⟩))
        all_goals first
          | exact loop_next hXH hXb hHW HKO.out HKF.out HFRW.out HD.out HFT.out HWK.out HGET.out (by rw [HST.out]; exact Prod.ext rfl hok.eq) hs1' hs0' HNOT.out HIF.out hd01 HRR.out
          | exact loop_ret hH4 hHW HKO.out HFRW.out HFT.out HWK.out herr.lo herr.hi herr.wr (fun hp hi => by subst hi; rw [HRR.out hp]; exact lookL_err iB fB HGET.out HNOT.out (by rw [HST.out]; exact Prod.ext rfl herr.eq))
          | exact loop_next hXH hXb hHW HKO.out HKF.out HFRW.out HD.out HFT.out HWK.out HGET.out (by rw [HST.out]; exact Prod.ext rfl hok.eq) hs1' hs0' (fun e => absurd e.2.1 (by decide)) (if_pos (by rw [HST.out]; exact HC.out)) (.inr rfl) HRR.out
          | exact loop_ret hH4 hHW HKO.out HFRW.out HFT.out HWK.out herr.lo herr.hi herr.wr (fun hp hi => by subst hi; rw [HRR.out hp]; exact lookL_err iB fB HGET.out (fun e => absurd e.2.1 (by decide)) (by rw [HST.out]; exact Prod.ext rfl herr.eq))
          | exact absurd hok.eq (look_err_many iB fB (by omega))
          | exact absurd hok.eq (look_err_deep iB fB (by omega) (by omega))
          | exact loop_ret hH4 hHW HKO.out HFRW.out HFT.out HWK.out herr.lo herr.hi herr.wr (fun hp hi => by subst hi; rw [HRR.out hp]; exact lookL_err iB fB HGET.out (fun e => absurd e.2.2.1 (by omega)) (by rw [HST.out]; exact Prod.ext rfl herr.eq))
          | exact loop_ret hH4 hHW HKO.out HFRW.out HFT.out HWK.out herr.lo herr.hi herr.wr (fun hp hi => by subst hi; rw [HRR.out hp]; exact lookL_err iB fB HGET.out (fun e => absurd e.2.2.2 (by omega)) (by rw [HST.out]; exact Prod.ext rfl herr.eq))
          | exact loop_ret hH4 hHW HKO2.out HFR2.out (Foot.of HB.out) ((HB.out.block _ (Nat.lt_of_lt_of_le HFR2.out.hB (Nat.le_trans (Nat.le_add_right _ 4) HFR2.out.size))).trans HFR2.out.walker) HP1.out HP2.out (x := ⟨20, a1, shortB s1⟩) HWR.out (fun hp hi => by subst hi; rw [HRR.out hp]; exact lookL_dup iB fB HGET.out (by rw [HST.out]; exact HC.out) (by decide) (by assumption) (by assumption))
    case done =>
      rintro D ys W hD hys ⟨d, sn, fr, hd, hd01, hs0', hs1', hHW, hrr⟩ hK
      have hlen : ys.length = ks.length := by have := congrArg List.length hys; simpa using this
      have hrf : r = (sn, none) := by rw [hrr (by rw [hlen]; exact hys)]; exact lookL_end iB fB (by omega)
      obtain ⟨f1, f2, f3, f4, f5, f6, f7, f8, f9, f10, f11⟩ := fr.cells
      have HRR := Lib.hid hrf
      have HFR := Lib.hid fr
      clear hrf fr hrr
      gi_wp2
      exact look_done HFR.out (by omega) hK HRR.out _ rfl
    case stop =>
      rintro D c pre W hD ⟨j, hj, hpre⟩ hx hK
      have HX := Lib.hid hx
      obtain ⟨_, _, _, rfl, _⟩ := hx
      gi_wp2
      exact look_stop (by omega) HX.out hpre hD hK _ rfl
end Go.Proofs.YtokhfhibdeneeaaGreatDoor

namespace Go.Proofs.YtokhfhibdeneeaaGreatDoor
open Go.RowKit

/-- What Right hands back. -/
def RightPost (w : World) (r : Option Wr) (e : Ending) (w' : World) : Prop :=
  Below w.heap.size w w' ∧
  ((r = none ∧ e = .returned .nilIface) ∨ ∃ x b, r = some x ∧ e = .returned (.iface 43 (.pointer (some ⟨b, 0, none⟩))) ∧ w.heap.size ≤ b ∧ b < w'.heap.size ∧ WrongAt w' b x.code x.at_ x.name)

set_option maxRecDepth 100000 in
set_option maxHeartbeats 1000000 in
theorem Right_any (iB fB : ByteArray → Bool) (t : Nd) (he : t.Each (NumsAt iB fB)) (v : Value) (w : World) (h : Gl w) (hl : Lies w w.heap.size t v) :
    Calls Tryz.prog 17 #[v] w (RightPost w (t.look iB fB 1 0 0).2) := by
  obtain ⟨k, s, n, a, ks⟩ := t
  have hl2 := hl
  unfold Lies at hl2
  obtain ⟨A, cap, rfl, _⟩ := hl2
  obtain ⟨r, HR⟩ : ∃ r, Hid (Nd.look iB fB (.mk k s n a ks) 1 0 0 = r) := ⟨_, rfl⟩
  rw [HR.out]
  have hb2 : Below w.heap.size w ((w.alloc (.cells #[.int .i64 k, .string s, .int .i64 n, .int .i64 a, .slice A ks.length cap] 25)).alloc (.cells #[.int .i64 0] 63)) := ((Below.refl _ _).alloc (Nat.le_refl _) _).alloc (by simp) _
  have hbx := Boxed.new (w.alloc (.cells #[.int .i64 k, .string s, .int .i64 n, .int .i64 a, .slice A ks.length cap] 25)) 63 (.int .i64 0)
  rw [World.size_alloc] at hbx
  have hc := look_any iB fB _ he _ 1 0 0 (w.heap.size + 1) _ (h.up hb2) (by have := h.2.2; omega) ((hl.below hb2).more (by omega)) hbx (by omega) (by omega) (by omega) (by omega) ⟨by omega, by omega⟩
  rw [HR.out] at hc
  have HC := Lib.hid hc
  have HB2 := Lib.hid hb2
  clear hc hb2 hbx h hl he
  go_enter Tryz.func17, Tryz.ntmps17
  go_wp2_with (go_at_call 32; refine HC.out.mono ?_; rintro e w3 ⟨hfoot, hwk, hres⟩; have HFT := Lib.hid hfoot; clear hfoot hwk; rcases hres with ⟨hok, rfl⟩ | ⟨x, pb, herr, rfl⟩)
  all_goals go_wp2
  all_goals go_ret
  all_goals have hbb : Below w.heap.size w w3 := HB2.out.trans ((HFT.out.to (C := w.heap.size) (by simp; omega) (fun i e => by omega)))
  · exact ⟨hbb, .inl ⟨hok.eq, rfl⟩⟩
  · exact ⟨hbb, .inr ⟨x, pb, herr.eq, rfl, by have := herr.lo; simp at this; omega, herr.hi, herr.wr⟩⟩

end Go.Proofs.YtokhfhibdeneeaaGreatDoor
