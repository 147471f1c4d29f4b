/- (*walker).look: what is wrong first with a tree, and how many nodes have been seen. -/
import Derived.Test.YtjpmghgmmeemkaaGreatDoorRight5
import Derived.Test.YtjpmghgmmeemkaaGreatDoorOver
import Derived.Test.YtjpmghgmmeemkaaGreatDoorLookSpec
namespace Go.Proofs.YtjpmghgmmeemkaaGreatDoor
open Go.RowKit Go.Shelf
attribute [local go_sem] Oper.semAt_some

theorem may_any (k : Int) (s : ByteArray) (n a : Int) (A : Option Addr) (len cap : Nat) (q : Int) (hq : 0 ≤ q ∧ q ≤ 29) (w : World) :
    Calls Tryz.prog 43 #[.agg #[.int .i64 k, .string s, .int .i64 n, .int .i64 a, .slice A len cap], .int .i64 q] w fun e w' => e = .returned (.bool (mayB k s q)) ∧ Below w.heap.size w w' := by
  have h : q = 0 ∨ q = 1 ∨ q = 2 ∨ q = 3 ∨ q = 4 ∨ q = 5 ∨ q = 6 ∨ q = 7 ∨ q = 8 ∨ q = 9 ∨ q = 10 ∨ q = 11 ∨ q = 12 ∨ q = 13 ∨ q = 14 ∨ q = 15 ∨ q = 16 ∨ q = 17 ∨ q = 18 ∨ q = 19 ∨ q = 20 ∨ q = 21 ∨ q = 22 ∨ q = 23 ∨ q = 24 ∨ q = 25 ∨ q = 26 ∨ q = 27 ∨ q = 28 ∨ q = 29 := by omega
  rcases h with rfl | rfl | rfl | rfl | rfl | rfl | rfl | rfl | rfl | rfl | rfl | rfl | rfl | rfl | rfl | rfl | rfl | rfl | rfl | rfl | rfl | rfl | rfl | rfl | rfl | rfl | rfl | rfl | rfl | rfl
  · exact may_at0 k s n a A len cap w
  · exact may_at1 k s n a A len cap w
  · exact may_at2 k s n a A len cap w
  · exact may_at3 k s n a A len cap w
  · exact may_at4 k s n a A len cap w
  · exact may_at5 k s n a A len cap w
  · exact may_at6 k s n a A len cap w
  · exact may_at7 k s n a A len cap w
  · exact may_at8 k s n a A len cap w
  · exact may_at9 k s n a A len cap w
  · exact may_at10 k s n a A len cap w
  · exact may_at11 k s n a A len cap w
  · exact may_at12 k s n a A len cap w
  · exact may_at13 k s n a A len cap w
  · exact may_at14 k s n a A len cap w
  · exact may_at15 k s n a A len cap w
  · exact may_at16 k s n a A len cap w
  · exact may_at17 k s n a A len cap w
  · exact may_at18 k s n a A len cap w
  · exact may_at19 k s n a A len cap w
  · exact may_at20 k s n a A len cap w
  · exact may_at21 k s n a A len cap w
  · exact may_at22 k s n a A len cap w
  · exact may_at23 k s n a A len cap w
  · exact may_at24 k s n a A len cap w
  · exact may_at25 k s n a A len cap w
  · exact may_at26 k s n a A len cap w
  · exact may_at27 k s n a A len cap w
  · exact may_at28 k s n a A len cap w
  · exact may_at29 k s n a A len cap w

/-- The frame of a call of look, at W: its four boxes lie from B on; the walker in block bw has seen so many. -/
structure Fr (B bw : Nat) (k : Int) (s : ByteArray) (n a : Int) (A : Option Addr) (cap : Nat) (ks : List Nd) (deep seen : Int) (w W : World) : Prop where
  hB : bw < B
  h3 : 3 ≤ bw
  size : B + 4 ≤ W.heap.size
  foot : Foot B (fun i => i = bw) w W
  gl : Gl W
  lies : Lies W bw (.mk k s n a ks) (.agg #[.int .i64 k, .string s, .int .i64 n, .int .i64 a, .slice A ks.length cap])
  walker : Boxed W bw 61 (.int .i64 seen)
  b0 : Boxed W B 59 (.pointer (some ⟨bw, 0, none⟩))
  b1 : W.heap[B + 1]? = some (.cells #[.int .i64 k, .string s, .int .i64 n, .int .i64 a, .slice A ks.length cap] 24 (0, 0))
  b2 : Boxed W (B + 1 + 1) 3 (.int .i64 deep)
  b3 : Boxed W (B + 1 + 1 + 1) 55 (.pointer none)

section
variable {B bw : Nat} {k : Int} {s : ByteArray} {n a : Int} {A : Option Addr} {cap : Nat} {ks : List Nd} {deep seen : Int} {w W W' : World}

theorem Fr.step (h : Fr B bw k s n a A cap ks deep seen w W) {C : Nat} (hb : Below C W W') (hC : B + 4 ≤ C) : Fr B bw k s n a A cap ks deep seen w W' := by
  have h1 := h.hB
  have h2 := h.h3
  exact ⟨h.hB, h.h3, Nat.le_trans h.size hb.size, h.foot.trans (Foot.of (hb.mono (by omega))), h.gl.below (by omega) hb, h.lies.below (hb.mono (by omega)),
    (hb.block _ (by omega)).trans h.walker, (hb.block _ (by omega)).trans h.b0, (hb.block _ (by omega)).trans h.b1, (hb.block _ (by omega)).trans h.b2, (hb.block _ (by omega)).trans h.b3⟩
theorem Fr.after (h : Fr B bw k s n a A cap ks deep seen w W) (hb : Below W.heap.size W W') : Fr B bw k s n a A cap ks deep seen w W' := h.step hb h.size
theorem Fr.alloc (h : Fr B bw k s n a A cap ks deep seen w W) (o : Obj) : Fr B bw k s n a A cap ks deep seen w (W.alloc o) := h.after ((Below.refl _ _).alloc (Nat.le_refl _) _)
/-- The walker has been written over, and what lay beyond W. -/
theorem Fr.walk (h : Fr B bw k s n a A cap ks deep seen w W) {C : Nat} {seen' : Int} (hf : Foot C (fun i => i = bw) W W') (hC : B + 4 ≤ C) (hw : Boxed W' bw 61 (.int .i64 seen')) : Fr B bw k s n a A cap ks deep seen' w W' := by
  have h1 := h.hB
  have h2 := h.h3
  have hb : Below bw W W' := hf.to (by omega) (fun i e => by omega)
  exact ⟨h.hB, h.h3, Nat.le_trans h.size hf.size, h.foot.trans (hf.mono (by omega) (fun _ _ e => e)), h.gl.below (by omega) hb, h.lies.below hb, hw,
    (hf.block _ (by omega) (by omega)).trans h.b0, (hf.block _ (by omega) (by omega)).trans h.b1, (hf.block _ (by omega) (by omega)).trans h.b2, (hf.block _ (by omega) (by omega)).trans h.b3⟩
theorem Fr.tick (h : Fr B bw k s n a A cap ks deep seen w W) (v : Int) : Fr B bw k s n a A cap ks deep v w (W.setCell ⟨bw, 0, none⟩ (.int .i64 v)) :=
  h.walk (Foot.set (g := fun i => i = bw) (p := ⟨bw, 0, none⟩) (Foot.refl W.heap.size _ W) (.inr rfl) _) h.size (h.walker.set _)
theorem Fr.cells (h : Fr B bw k s n a A cap ks deep seen w W) :
    W.cell? ⟨B, 0, none⟩ = some (.pointer (some ⟨bw, 0, none⟩)) ∧ W.cell? ⟨B + 1, 0, none⟩ = some (.int .i64 k) ∧ W.cell? ⟨B + 1, 1, none⟩ = some (.string s) ∧ W.cell? ⟨B + 1, 2, none⟩ = some (.int .i64 n) ∧
    W.cell? ⟨B + 1, 3, none⟩ = some (.int .i64 a) ∧ W.cell? ⟨B + 1, 4, none⟩ = some (.slice A ks.length cap) ∧ W.cell? ⟨B + 1 + 1, 0, none⟩ = some (.int .i64 deep) ∧
    W.cell? ⟨B + 1 + 1 + 1, 0, none⟩ = some (.pointer none) ∧ W.frozen? ⟨B + 1 + 1 + 1, 0, none⟩ = false ∧ W.cell? ⟨bw, 0, none⟩ = some (.int .i64 seen) ∧ W.frozen? ⟨bw, 0, none⟩ = false :=
  ⟨h.b0.cell, cell_of_row _ _ 0 _ _ _ h.b1, cell_of_row _ _ 1 _ _ _ h.b1, cell_of_row _ _ 2 _ _ _ h.b1, cell_of_row _ _ 3 _ _ _ h.b1, cell_of_row _ _ 4 _ _ _ h.b1, h.b2.cell, h.b3.cell, h.b3.frozen, h.walker.cell, h.walker.frozen⟩
end

theorem Fr.init {bw : Nat} {k : Int} {s : ByteArray} {n a : Int} {A : Option Addr} {cap : Nat} {ks : List Nd} {deep seen : Int} {w : World} (h3 : 3 ≤ bw) (hgl : Gl w)
    (hl : Lies w bw (.mk k s n a ks) (.agg #[.int .i64 k, .string s, .int .i64 n, .int .i64 a, .slice A ks.length cap])) (hw : Boxed w bw 61 (.int .i64 seen)) :
    Fr w.heap.size bw k s n a A cap ks deep seen w ((((w.alloc (.cells #[.pointer (some ⟨bw, 0, none⟩)] 59)).alloc (.cells #[.int .i64 k, .string s, .int .i64 n, .int .i64 a, .slice A ks.length cap] 24)).alloc (.cells #[.int .i64 deep] 3)).alloc (.cells #[.pointer none] 55)) := by
  have hb : Below w.heap.size w ((((w.alloc (.cells #[.pointer (some ⟨bw, 0, none⟩)] 59)).alloc (.cells #[.int .i64 k, .string s, .int .i64 n, .int .i64 a, .slice A ks.length cap] 24)).alloc (.cells #[.int .i64 deep] 3)).alloc (.cells #[.pointer none] 55)) :=
    ((((Below.refl _ _).alloc (Nat.le_refl _) _).alloc (by simp) _).alloc (by simp; omega) _).alloc (by simp; omega) _
  have hlt := hw.lt
  refine ⟨hlt, h3, by simp, Foot.of hb, hgl.up hb, hl.below (hb.mono (by omega)), (hb.block _ hlt).trans hw, ?_, ?_, ?_, ?_⟩
  · exact (((Boxed.new w _ _).alloc _).alloc _).alloc _
  · have h := heap_alloc_new (w.alloc (.cells #[.pointer (some ⟨bw, 0, none⟩)] 59)) (.cells #[.int .i64 k, .string s, .int .i64 n, .int .i64 a, .slice A ks.length cap] 24)
    rw [World.size_alloc] at h
    rw [heap_alloc_old _ _ (by simp), heap_alloc_old _ _ (by simp)]
    exact h
  · have h := Boxed.new ((w.alloc (.cells #[.pointer (some ⟨bw, 0, none⟩)] 59)).alloc (.cells #[.int .i64 k, .string s, .int .i64 n, .int .i64 a, .slice A ks.length cap] 24)) 3 (.int .i64 deep)
    simp only [World.size_alloc] at h
    exact h.alloc _
  · have h := Boxed.new (((w.alloc (.cells #[.pointer (some ⟨bw, 0, none⟩)] 59)).alloc (.cells #[.int .i64 k, .string s, .int .i64 n, .int .i64 a, .slice A ks.length cap] 24)).alloc (.cells #[.int .i64 deep] 3)) 55 (.pointer none)
    simp only [World.size_alloc] at h
    exact h

structure LookErr (w w' : World) (r : Int × Option Wr) (x : Wr) (b : Nat) : Prop where
  eq : r.2 = some x
  lo : w.heap.size ≤ b
  hi : b < w'.heap.size
  wr : WrongAt w' b x.code x.at_ x.name
structure LookOk (r : Int × Option Wr) : Prop where
  eq : r.2 = none

/-- What a call of look has left behind. -/
def LookPost (bw : Nat) (w : World) (r : Int × Option Wr) (e : Ending) (w' : World) : Prop :=
  Foot w.heap.size (fun i => i = bw) w w' ∧ Boxed w' bw 61 (.int .i64 r.1) ∧
  ((LookOk r ∧ e = .returned (.pointer none)) ∨ ∃ x b, LookErr w w' r x b ∧ e = .returned (.pointer (some ⟨b, 0, none⟩)))

/-- ints and floats answer so at a text. -/
def IntsAt (iB : ByteArray → Bool) (s : ByteArray) : Prop := ∀ w, Gl w → Calls Tryz.prog 64 #[.string s] w fun e w' => e = .returned (.bool (iB s)) ∧ Below w.heap.size w w'
def FloatsAt (fB : ByteArray → Bool) (s : ByteArray) : Prop := ∀ w, Gl w → Calls Tryz.prog 65 #[.string s] w fun e w' => e = .returned (.bool (fB s)) ∧ Below w.heap.size w w'
def NumsAt (iB fB : ByteArray → Bool) (t : Nd) : Prop := (t.kind = 35 → IntsAt iB t.text) ∧ (t.kind = 36 → FloatsAt fB t.text)

theorem wrong_new (c k : Int) (s : ByteArray) (n a : Int) (A : Option Addr) (len cap : Nat) (w : World) :
    Calls Tryz.prog 42 #[.int .i64 c, .agg #[.int .i64 k, .string s, .int .i64 n, .int .i64 a, .slice A len cap]] w fun e w' =>
      ∃ b, e = .returned (.pointer (some ⟨b, 0, none⟩)) ∧ w.heap.size ≤ b ∧ b < w'.heap.size ∧ WrongAt w' b c a (shortB s) ∧ Below w.heap.size w w' := by
  refine (wrong_any c k s n a A len cap w).mono ?_
  rintro e w' ⟨rfl, hw, hb⟩
  refine ⟨_, rfl, Nat.le_succ _, ?_, hw, hb⟩
  exact World.block_lt_of_cell? w' _ hw.1

theorem look_result (tmps : Array Value) (W : World) (g : Nat) (v : Value) (h8 : tmps.getD 8 undef = .pointer (some ⟨g, 0, none⟩)) (hc : W.cell? ⟨g, 0, none⟩ = some v) :
    (results Tryz.f30 tmps).run Tryz.prog W = .ok v W := by
  have h8' : tmps[8]?.getD undef = .pointer (some ⟨g, 0, none⟩) := by simpa using h8
  simp [results, Tryz.f30, go_sem, h8', hc]

theorem WrongAt.set {W : World} {b : Nat} {c a : Int} {nm : ByteArray} (h : WrongAt W b c a nm) {p : Addr} (hne : p.block ≠ b) (v : Value) : WrongAt (W.setCell p v) b c a nm := by
  obtain ⟨h1, h2, h3, h4, h5, h6⟩ := h
  have e : ∀ i, p ≠ ⟨b, i, none⟩ := fun i e => hne (by rw [e])
  refine ⟨?_, ?_, ?_, by rw [World.frozen?_setCell]; exact h4, by rw [World.frozen?_setCell]; exact h5, by rw [World.frozen?_setCell]; exact h6⟩
  · rw [World.cell?_setCell_other (h := e 0)]; exact h1
  · rw [World.cell?_setCell_other (h := e 1)]; exact h2
  · rw [World.cell?_setCell_other (h := e 2)]; exact h3

theorem look_leafW {B bw : Nat} {k : Int} {s : ByteArray} {n a : Int} {A : Option Addr} {cap : Nat} {ks : List Nd} {deep seen : Int} {w W : World} (fr : Fr B bw k s n a A cap ks deep seen w W) (hB : B = w.heap.size)
    {b : Nat} (hb : B + 4 ≤ b) (hlt : b < W.heap.size) {c a' : Int} {nm : ByteArray} (hw : WrongAt W b c a' nm) {r : Int × Option Wr} (hr : r = (seen, some ⟨c, a', nm⟩))
    (tmps : Array Value) (h8 : tmps.getD 8 undef = .pointer (some ⟨w.heap.size + 1 + 1 + 1, 0, none⟩)) :
    bodyPostM Fence.wide 6 Tryz.prog Tryz.f30 (LookPost bw w r) .ret { tmps := tmps, defers := [] } (W.setCell ⟨w.heap.size + 1 + 1 + 1, 0, none⟩ (.pointer (some ⟨b, 0, none⟩))) := by
  subst hB hr
  have h1 := fr.hB
  have hbx := fr.b3.set (.pointer (some ⟨b, 0, none⟩))
  refine ⟨_, look_result _ _ _ _ h8 hbx.cell, fr.foot.set (p := ⟨w.heap.size + 1 + 1 + 1, 0, none⟩) (.inl (by simp; omega)) _, ?_, .inr ⟨_, b, ⟨rfl, by omega, by simpa using hlt, hw.set (by simp; omega) _⟩, rfl⟩⟩
  exact fr.walker.other (by omega) _


theorem WrongAt.kept {W W' : World} {b : Nat} {c a : Int} {nm : ByteArray} (h : WrongAt W b c a nm) (hb : W'.heap[b]? = W.heap[b]?) : WrongAt W' b c a nm := by
  obtain ⟨h1, h2, h3, h4, h5, h6⟩ := h
  have e : ∀ i, W'.cell? ⟨b, i, none⟩ = W.cell? ⟨b, i, none⟩ := fun i => World.cell?_of_block (w := W) hb
  have e' : ∀ i, W'.frozen? ⟨b, i, none⟩ = W.frozen? ⟨b, i, none⟩ := fun i => World.frozen?_of_block (w := W) hb
  exact ⟨(e _).trans h1, (e _).trans h2, (e _).trans h3, (e' _).trans h4, (e' _).trans h5, (e' _).trans h6⟩
theorem WrongAt.ne {W : World} {b D : Nat} {c a : Int} {nm : ByteArray} (h : WrongAt W b c a nm) {o : Obj} (hD : W.heap[D]? = some o) (ho : o.isCells = false) : b ≠ D := by
  rintro rfl
  have h1 := h.1
  cases o <;> simp [World.cell?, hD, Obj.isCells] at h1 ho

/-- Between two rounds of look's loop. -/
def LoopI (iB fB : ByteArray → Bool) (bw : Nat) (k : Int) (s : ByteArray) (n a : Int) (A : Option Addr) (cap : Nat) (ks : List Nd) (deep : Int) (X H : Nat) (sh : Shp) (r : Int × Option Wr) (w : World) (pre : List (Ix ks.length)) (W : World) : Prop :=
  ∃ d sn : Int, Fr w.heap.size bw k s n a A cap ks deep sn w W ∧ Boxed W (X + 1) 3 (.int .i64 d) ∧ (d = 0 ∨ d = 1) ∧ 0 ≤ sn ∧ sn ≤ 20000 ∧ H ≤ W.heap.size ∧
    (pre.map Subtype.val = List.range pre.length → r = lookL iB fB (ks.drop pre.length) sh pre.length deep d sn)
/-- A round has left. -/
def LoopX (bw : Nat) (ks : List Nd) (H : Nat) (r : Int × Option Wr) (w : World) (c : Code) (pre : List (Ix ks.length)) (W : World) : Prop :=
  ∃ (sn : Int) (x : Wr) (b : Nat), c = .ret ∧ Foot w.heap.size (fun i => i = bw) w W ∧ Boxed W bw 61 (.int .i64 sn) ∧ bw < w.heap.size ∧ Boxed W (w.heap.size + 1 + 1 + 1) 55 (.pointer (some ⟨b, 0, none⟩)) ∧
    w.heap.size ≤ b ∧ b < W.heap.size ∧ WrongAt W b x.code x.at_ x.name ∧ H ≤ W.heap.size ∧ (pre.map Subtype.val = List.range pre.length → r = (sn, some x))

theorem LoopI.own {iB fB : ByteArray → Bool} {bw : Nat} {k : Int} {s : ByteArray} {n a : Int} {A : Option Addr} {cap : Nat} {ks : List Nd} {deep : Int} {X H : Nat} {sh : Shp} {r : Int × Option Wr} {w : World} (hX : X + 1 < H) (hH : w.heap.size + 4 ≤ H) :
    OwnFrom H (LoopI iB fB bw k s n a A cap ks deep X H sh r w) := by
  rintro pre W W' row ⟨d, sn, fr, hd, h1, h2, h3, h4, h5⟩ hg hr
  have hb : Below H W W' := (Below.refl H W).grown hg h4 (fun k e => (hr k e).1)
  exact ⟨d, sn, fr.step hb hH, (hb.block _ hX).trans hd, h1, h2, h3, Nat.le_trans h4 hb.size, h5⟩
theorem LoopX.own {bw : Nat} {ks : List Nd} {H : Nat} {r : Int × Option Wr} {w : World} (hH : w.heap.size + 4 ≤ H) (c : Code) : OwnFrom H (LoopX bw ks H r w c) := by
  rintro pre W W' row ⟨sn, x, b, h1, h2, h3, h4, h5, h6, h7, h8, h9, h10⟩ hg hr
  have hb : Below H W W' := (Below.refl H W).grown hg h9 (fun k e => (hr k e).1)
  refine ⟨sn, x, b, h1, h2.trans (Foot.of (hb.mono (by omega))), (hb.block _ (by omega)).trans h3, h4, (hb.block _ (by omega)).trans h5, h6, Nat.lt_of_lt_of_le h7 hb.size, h8.kept (hg.block b h7 ?_), Nat.le_trans h9 hb.size, h10⟩
  intro e
  obtain ⟨_, o, ho, hc⟩ := hr b e.symm
  exact h8.ne ho hc rfl

/-- Where look's loop begins. -/
theorem look_start {B bw : Nat} {k : Int} {s : ByteArray} {n a : Int} {A : Option Addr} {cap : Nat} {ks : List Nd} {deep seen : Int} {w W : World} (fr : Fr B bw k s n a A cap ks deep seen w W) (v0 v1 v2 v3 v4 v : Value) (T : TypeId) :
    Fr B bw k s n a A cap ks deep seen w ((((W.alloc (.cells #[v0, v1, v2, v3, v4] T)).alloc (.cells #[.int .i64 0] 3)).alloc (.cells #[v0, v1, v2, v3, v4] T)).alloc (.cells #[v] 3)) ∧
    Boxed ((((W.alloc (.cells #[v0, v1, v2, v3, v4] T)).alloc (.cells #[.int .i64 0] 3)).alloc (.cells #[v0, v1, v2, v3, v4] T)).alloc (.cells #[v] 3)) (W.heap.size + 1) 3 (.int .i64 0) ∧
    ((((W.alloc (.cells #[v0, v1, v2, v3, v4] T)).alloc (.cells #[.int .i64 0] 3)).alloc (.cells #[v0, v1, v2, v3, v4] T)).alloc (.cells #[v] 3)).cell? ⟨W.heap.size + 1 + 1, 0, none⟩ = some v0 ∧
    ((((W.alloc (.cells #[v0, v1, v2, v3, v4] T)).alloc (.cells #[.int .i64 0] 3)).alloc (.cells #[v0, v1, v2, v3, v4] T)).alloc (.cells #[v] 3)).cell? ⟨W.heap.size + 1 + 1, 1, none⟩ = some v1 ∧
    Boxed ((((W.alloc (.cells #[v0, v1, v2, v3, v4] T)).alloc (.cells #[.int .i64 0] 3)).alloc (.cells #[v0, v1, v2, v3, v4] T)).alloc (.cells #[v] 3)) (W.heap.size + 1 + 1 + 1) 3 v ∧
    Below W.heap.size W ((((W.alloc (.cells #[v0, v1, v2, v3, v4] T)).alloc (.cells #[.int .i64 0] 3)).alloc (.cells #[v0, v1, v2, v3, v4] T)).alloc (.cells #[v] 3)) ∧
    ((((W.alloc (.cells #[v0, v1, v2, v3, v4] T)).alloc (.cells #[.int .i64 0] 3)).alloc (.cells #[v0, v1, v2, v3, v4] T)).alloc (.cells #[v] 3)).heap.size = W.heap.size + 4 := by
  have hb : Below W.heap.size W ((((W.alloc (.cells #[v0, v1, v2, v3, v4] T)).alloc (.cells #[.int .i64 0] 3)).alloc (.cells #[v0, v1, v2, v3, v4] T)).alloc (.cells #[v] 3)) :=
    ((((Below.refl _ _).alloc (Nat.le_refl _) _).alloc (by simp) _).alloc (by simp; omega) _).alloc (by simp; omega) _
  have h1 := Boxed.new (W.alloc (.cells #[v0, v1, v2, v3, v4] T)) 3 (.int .i64 0)
  simp only [World.size_alloc] at h1
  have h2 := heap_alloc_new ((W.alloc (.cells #[v0, v1, v2, v3, v4] T)).alloc (.cells #[.int .i64 0] 3)) (.cells #[v0, v1, v2, v3, v4] T)
  simp only [World.size_alloc] at h2
  have h2' : ((((W.alloc (.cells #[v0, v1, v2, v3, v4] T)).alloc (.cells #[.int .i64 0] 3)).alloc (.cells #[v0, v1, v2, v3, v4] T)).alloc (.cells #[v] 3)).heap[W.heap.size + 1 + 1]? = some (.cells #[v0, v1, v2, v3, v4] T) := by
    rw [heap_alloc_old _ _ (by simp)]; exact h2
  have h3 := Boxed.new (((W.alloc (.cells #[v0, v1, v2, v3, v4] T)).alloc (.cells #[.int .i64 0] 3)).alloc (.cells #[v0, v1, v2, v3, v4] T)) 3 v
  simp only [World.size_alloc] at h3
  exact ⟨fr.after hb, (h1.alloc _).alloc _, cell_of_row _ _ 0 _ _ _ h2', cell_of_row _ _ 1 _ _ _ h2', h3, hb, by simp⟩

/-- The way out of a round that goes on. -/
theorem loop_next {iB fB : ByteArray → Bool} {bw : Nat} {k : Int} {s : ByteArray} {n a : Int} {A : Option Addr} {cap : Nat} {ks : List Nd} {deep : Int} {X H : Nat} {sh : Shp} {r : Int × Option Wr} {w W W1 w3 : World} {pre : List (Ix ks.length)} {i : Nat} {hi : i < ks.length}
    {d d' sn sn' : Int} {t : Nd} (hX : X + 1 < H) (hXb : w.heap.size + 4 ≤ X) (hHW : H ≤ W.heap.size) (hKO : KeepsOthers W W1) (hKF : Foot H (fun j => j = bw ∨ j = X + 1) W W1) (fr1 : Fr w.heap.size bw k s n a A cap ks deep sn w W1) (hd1 : Boxed W1 (X + 1) 3 (.int .i64 d'))
    (hf : Foot W1.heap.size (fun j => j = bw) W1 w3) (hw : Boxed w3 bw 61 (.int .i64 sn')) (hget : ks[i]? = some t) (hlook : t.look iB fB (deep + 1) (sh.at_ i) sn = (sn', none)) (hs : sn ≤ 20000) (hs0 : 0 ≤ sn)
    (hn : ¬ (isCase (sh.at_ i) t = true ∧ 1 ≤ d ∧ sn < 20000 ∧ deep < 60)) (hd : (if isCase (sh.at_ i) t = true then d + 1 else d) = d') (hd01 : d' = 0 ∨ d' = 1)
    (hr : pre.map Subtype.val = List.range pre.length → r = lookL iB fB (ks.drop pre.length) sh pre.length deep d sn) :
    KeepsFrom H W w3 ∧ Foot H (fun j => j = bw ∨ j = X + 1) W w3 ∧ LoopI iB fB bw k s n a A cap ks deep X H sh r w (pre ++ [⟨i, hi⟩]) w3 := by
  have hsz := hKO.size
  have hB := fr1.hB
  have hbd := Nd.look_bd iB fB t (deep + 1) (sh.at_ i) sn hs
  rw [hlook] at hbd
  have hwb := fr1.walker
  have hk2 : KeepsOthers W1 w3 := hf.keeps (fun j o e ho => by subst e; rw [show W1.heap[j]? = _ from hwb] at ho; cases ho; rfl)
  refine ⟨(hKO.trans hk2).from _, hKF.trans (hf.mono (by omega) (fun j _ e => .inl e)), d', sn', fr1.walk hf fr1.size hw, (hf.block _ (by omega) (by omega)).trans hd1, hd01, by omega, hbd.2, Nat.le_trans hHW (Nat.le_trans hsz hf.size), ?_⟩
  intro hpre
  have hl : (pre ++ [(⟨i, hi⟩ : Ix ks.length)]).length = pre.length + 1 := by simp
  rw [hl, List.range_succ, List.map_append] at hpre
  obtain ⟨hp1, hp2⟩ := List.append_inj' hpre rfl
  have hii : i = pre.length := by simpa using hp2
  rw [hl, hr hp1]
  subst hii
  exact lookL_next iB fB hget hn hlook hd

/-- The way out of a round that returns. -/
theorem loop_ret {bw : Nat} {k : Int} {s : ByteArray} {n a : Int} {A : Option Addr} {cap : Nat} {ks : List Nd} {deep : Int} {H : Nat} {r : Int × Option Wr} {w W W1 w3 : World} {pre : List (Ix ks.length)} {i : Nat} {hi : i < ks.length} {sn sn' : Int} {x : Wr} {pb : Nat}
    (_hH : w.heap.size + 4 ≤ H) (hHW : H ≤ W.heap.size) (hKO : KeepsOthers W W1) (fr1 : Fr w.heap.size bw k s n a A cap ks deep sn w W1)
    (hf : Foot W1.heap.size (fun j => j = bw) W1 w3) (hw : Boxed w3 bw 61 (.int .i64 sn')) (hp1 : W1.heap.size ≤ pb) (hp2 : pb < w3.heap.size) (hwr : WrongAt w3 pb x.code x.at_ x.name)
    (hr : pre.map Subtype.val = List.range pre.length → i = pre.length → r = (sn', some x)) :
    KeepsFrom H W (w3.setCell ⟨w.heap.size + 1 + 1 + 1, 0, none⟩ (.pointer (some ⟨pb, 0, none⟩))) ∧ LoopX bw ks H r w .ret (pre ++ [⟨i, hi⟩]) (w3.setCell ⟨w.heap.size + 1 + 1 + 1, 0, none⟩ (.pointer (some ⟨pb, 0, none⟩))) := by
  have hsz := hKO.size
  have hB := fr1.hB
  have hwb := fr1.walker
  have hk2 : KeepsOthers W1 w3 := hf.keeps (fun j o e ho => by subst e; rw [show W1.heap[j]? = _ from hwb] at ho; cases ho; rfl)
  have fr3 := fr1.walk hf fr1.size hw
  have hs1 := fr1.size
  refine ⟨((hKO.trans hk2).trans (KeepsOthers.setCell _ _ _)).from _, sn', x, pb, rfl, fr3.foot.set (p := ⟨w.heap.size + 1 + 1 + 1, 0, none⟩) (.inl (by simp; omega)) _, hw.other (by omega) _, hB, fr3.b3.set _, by omega, by simpa using hp2, hwr.set (by simp; omega) _, by simp; have := hf.size; omega, ?_⟩
  intro hpre
  have hl : (pre ++ [(⟨i, hi⟩ : Ix ks.length)]).length = pre.length + 1 := by simp
  rw [hl, List.range_succ, List.map_append] at hpre
  obtain ⟨hp1, hp2⟩ := List.append_inj' hpre rfl
  exact hr hp1 (by simpa using hp2)

theorem look_done {bw : Nat} {k : Int} {s : ByteArray} {n a : Int} {A : Option Addr} {cap : Nat} {ks : List Nd} {deep sn : Int} {w W : World} (fr : Fr w.heap.size bw k s n a A cap ks deep sn w W) {D : Nat} (hD : w.heap.size + 4 ≤ D) (hK : W.heap[D]? = some (.deferred (some [])))
    {r : Int × Option Wr} (hr : r = (sn, none)) (tmps : Array Value) (h8 : tmps.getD 8 undef = .pointer (some ⟨w.heap.size + 1 + 1 + 1, 0, none⟩)) :
    bodyPostM Fence.wide 6 Tryz.prog Tryz.f30 (LookPost bw w r) .ret { tmps := tmps, defers := [{ target := .collected D, args := #[] }] } (W.setCell ⟨w.heap.size + 1 + 1 + 1, 0, none⟩ (.pointer none)) := by
  subst hr
  have hB := fr.hB
  have hK' := (KeepsOthers.setCell W ⟨w.heap.size + 1 + 1 + 1, 0, none⟩ (.pointer none)).same D _ hK rfl
  have hg := grownBy_putObj' (W.setCell ⟨w.heap.size + 1 + 1 + 1, 0, none⟩ (.pointer none)) D (.deferred none)
  have hsz := fr.size
  refine ⟨by simp, .inl ⟨_, _, rfl, run_takeDeferred hK', ?_⟩⟩
  refine ⟨_, look_result _ _ _ _ h8 ((fr.b3.set (.pointer none)).kept hg (by simp; omega)).cell, (fr.foot.set (p := ⟨w.heap.size + 1 + 1 + 1, 0, none⟩) (.inl (by simp; omega)) _).grown hg (by simp; omega) (fun j e => by cases e; omega), ?_, .inl ⟨⟨rfl⟩, rfl⟩⟩
  exact (fr.walker.other (by omega) _).kept hg (by simp; omega)
theorem look_stop {bw : Nat} {ks : List Nd} {H : Nat} {r : Int × Option Wr} {w W : World} {c : Code} {pre : List (Ix ks.length)} (hH : w.heap.size + 4 ≤ H) (hx : LoopX bw ks H r w c pre W) {j : Nat} (hpre : pre.map Subtype.val = List.range j) {D : Nat} (hD : H ≤ D) (hK : W.heap[D]? = some (.deferred (some [])))
    (tmps : Array Value) (h8 : tmps.getD 8 undef = .pointer (some ⟨w.heap.size + 1 + 1 + 1, 0, none⟩)) :
    bodyPostM Fence.wide 6 Tryz.prog Tryz.f30 (LookPost bw w r) .ret { tmps := tmps, defers := [{ target := .collected D, args := #[] }] } W := by
  obtain ⟨sn, x, b, _, hf, hw, hbw, hbx, hb1, hb2, hwr, hHW, hr⟩ := hx
  have hj : j = pre.length := by have := congrArg List.length hpre; simpa using this.symm
  subst hj
  have hr' := hr hpre
  subst hr'
  have hg := grownBy_putObj' W D (.deferred none)
  refine ⟨by simp, .inl ⟨_, _, rfl, run_takeDeferred hK, ?_⟩⟩
  refine ⟨_, look_result _ _ _ _ h8 (hbx.kept hg (by simp; omega)).cell, hf.grown hg (by omega) (fun j e => by cases e; omega), hw.kept hg (by simp; omega), .inr ⟨x, b, ⟨rfl, hb1, Nat.lt_of_lt_of_le hb2 hg.size, hwr.kept (hg.block b hb2 (by simp; exact hwr.ne hK rfl))⟩, rfl⟩⟩

theorem look_kid {B bw : Nat} {k : Int} {s : ByteArray} {n a : Int} {A : Option Addr} {cap : Nat} {ks : List Nd} {deep seen : Int} {w W : World} (fr : Fr B bw k s n a A cap ks deep seen w W) {i : Nat} (hi : i < ks.length) :
    ∃ (k1 : Int) (s1 : ByteArray) (n1 a1 : Int) (A1 : Option Addr) (cap1 : Nat) (ks1 : List Nd) (L1 b o : Nat), A = some ⟨b, o, none⟩ ∧ b < bw ∧ ks[i]? = some (.mk k1 s1 n1 a1 ks1) ∧
      W.cell? ⟨b, o + i * 5, none⟩ = some (.int .i64 k1) ∧ W.cell? ⟨b, o + i * 5 + 1, none⟩ = some (.string s1) ∧ W.cell? ⟨b, o + i * 5 + 2, none⟩ = some (.int .i64 n1) ∧
      W.cell? ⟨b, o + i * 5 + 3, none⟩ = some (.int .i64 a1) ∧ W.cell? ⟨b, o + i * 5 + 4, none⟩ = some (.slice A1 L1 cap1) ∧
      Lies W bw (.mk k1 s1 n1 a1 ks1) (.agg #[.int .i64 k1, .string s1, .int .i64 n1, .int .i64 a1, .slice A1 L1 cap1]) ∧
      ((ks1 = [] ∧ L1 = 0) ∨ ∃ y ys b1 o1, ks1 = y :: ys ∧ 0 < L1 ∧ A1 = some ⟨b1, o1, none⟩ ∧ b1 < bw ∧ W.cell? ⟨b1, o1, none⟩ = some (.int .i64 y.kind)) := by
  have hl := fr.lies
  unfold Lies at hl
  obtain ⟨A2, cap2, he, _, _, _, _, _, _, hkids⟩ := hl
  simp only [Value.agg.injEq, Array.mk.injEq, List.cons.injEq, Value.slice.injEq, and_true, true_and] at he
  obtain ⟨rfl, rfl⟩ := he
  rcases hkids with rfl | ⟨b, o, rfl, hb, hkl⟩
  · simp at hi
  · obtain ⟨k1, s1, n1, a1, A1, cap1, ks1, hget, c0, c1, c2, c3, c4, hl1⟩ := LiesL.get i hi hkl
    refine ⟨k1, s1, n1, a1, A1, cap1, ks1, ks1.length, b, o, rfl, hb, hget, c0, c1, c2, c3, c4, hl1, ?_⟩
    unfold Lies at hl1
    obtain ⟨A2, cap2, he, _, _, _, _, _, _, hkids⟩ := hl1
    simp only [Value.agg.injEq, Array.mk.injEq, List.cons.injEq, Value.slice.injEq, and_true, true_and] at he
    obtain ⟨rfl, rfl⟩ := he
    rcases hkids with rfl | ⟨b1, o1, rfl, hb1, hkl1⟩
    · exact .inl ⟨rfl, rfl⟩
    · cases ks1 with
      | nil => exact .inl ⟨rfl, rfl⟩
      | cons y ys =>
        obtain ⟨k2, s2, n2, a2, A2, cap2, ks2, hget2, e0, _⟩ := LiesL.get 0 (by simp) hkl1
        simp at hget2
        subst hget2
        refine .inr ⟨_, ys, b1, o1, rfl, by simp, rfl, hb1, ?_⟩
        have h0 : W.cell? ⟨b1, o1, none⟩ = some (.int .i64 k2) := by simpa using e0
        exact h0
theorem look_err_many (iB fB : ByteArray → Bool) {t : Nd} {deep q seen : Int} (h : 20000 ≤ seen) : (t.look iB fB deep q seen).2 ≠ none := by
  cases t; rw [look_many iB fB h]; simp
theorem look_err_deep (iB fB : ByteArray → Bool) {t : Nd} {deep q seen : Int} (h : seen < 20000) (h2 : 60 < deep) : (t.look iB fB deep q seen).2 ≠ none := by
  cases t; rw [look_deep iB fB h h2]; simp

end Go.Proofs.YtjpmghgmmeemkaaGreatDoor
