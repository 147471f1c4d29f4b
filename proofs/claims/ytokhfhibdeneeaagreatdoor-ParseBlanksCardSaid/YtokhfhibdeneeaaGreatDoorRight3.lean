/- tree.statement, tree.shaped: the shape of every node. -/
import Derived.Test.YtokhfhibdeneeaaGreatDoorMRight1
namespace Go.Proofs.YtokhfhibdeneeaaGreatDoor
open Go.RowKit

structure Shp where
  first : List Int
  rest : Int
  least : Int
  most : Int
  many : Int
def Shp.at_ (s : Shp) (i : Nat) : Int := (s.first[i]?).getD s.rest
def fx (l : List Int) : Shp := ⟨l, 29, l.length, l.length, 20⟩
def rwS (r : Int) (l : List Int) : Shp := ⟨l, r, l.length, -1, 20⟩
def lim (r m : Int) : Shp := ⟨[], r, 0, m, 22⟩

def CellsAt (w : World) (b : Nat) : List Int → Nat → Prop
  | [], _ => True
  | x :: xs, j => w.cell? ⟨b, j, none⟩ = some (.int .i64 x) ∧ CellsAt w b xs (j + 1)
theorem CellsAt.get {w : World} {b : Nat} : ∀ {l : List Int} {j : Nat}, CellsAt w b l j → ∀ (i : Nat) (x : Int), l[i]? = some x → w.cell? ⟨b, j + i, none⟩ = some (.int .i64 x)
  | [], _, _, i, x, h => by simp at h
  | y :: l, j, h, 0, x, hx => by simp at hx; subst hx; exact h.1
  | y :: l, j, h, i + 1, x, hx => by
    have := CellsAt.get h.2 i x (by simpa using hx)
    rw [show j + (i + 1) = j + 1 + i by omega]
    exact this
theorem CellsAt.below {w w' : World} {b B : Nat} (hb : Below B w w') (hlt : b < B) : ∀ {l : List Int} {j : Nat}, CellsAt w b l j → CellsAt w' b l j
  | [], _, _ => trivial
  | y :: l, j, h => ⟨by rw [hb.cell (p := ⟨b, j, none⟩) hlt]; exact h.1, CellsAt.below hb hlt h.2⟩

/-- The value v is the shape sh, whose list lies in w in a block from B on. -/
def ShapeIs (B : Nat) (w : World) (v : Value) (sh : Shp) : Prop :=
  ∃ (A : Option Addr) (cap : Nat), v = .agg #[.slice A sh.first.length cap, .int .i64 sh.rest, .int .i64 sh.least, .int .i64 sh.most, .int .i64 sh.many] ∧ sh.first.length ≤ 4 ∧
    (sh.first = [] ∨ ∃ b, A = some ⟨b, 0, none⟩ ∧ B ≤ b ∧ b < w.heap.size ∧ CellsAt w b sh.first 0)

def stmtShape (k q : Int) (ty : Bool) : Shp :=
  if k = 17 then rwS 10 []
  else if k = 19 ∨ k = 21 then fx [4, 4, 16]
  else if k = 20 then fx [13, 11]
  else if k = 22 then fx [11, 9, 14]
  else if k = 23 then fx [12, 9]
  else if k = 24 then fx [15, 15, 11, 9]
  else if k = 25 then rwS 19 [12]
  else if k = 26 then rwS 20 [15, 11]
  else if k = 27 then (if q = 20 ∨ (q = 0 ∧ ty = true) then fx [22, 9] else fx [21, 9])
  else if k = 28 then fx [12]
  else if k = 29 ∨ k = 30 then fx [17]
  else if k = 34 then fx [13]
  else fx []

def lastOf (ks : List Nd) : Int := if ks.length = 4 ∧ (ks[2]?.map Nd.kind) = some 16 then 29 else 12
def shapeOf (k : Int) (s : ByteArray) (ks : List Nd) (q : Int) : Shp :=
  if k = 1 then rwS 1 []
  else if k = 2 then fx [5]
  else if k = 3 then lim 2 30
  else if k = 4 then lim 3 60
  else if k = 5 ∨ k = 43 then fx [8, 9]
  else if k = 6 then fx [7, 8, 9]
  else if k = 7 ∨ k = 18 ∨ k = 45 ∨ k = 50 then fx [11]
  else if k = 12 then fx [6]
  else if k = 13 then lim 4 12
  else if k = 15 then fx [4]
  else if k = 42 then fx [28]
  else if k = 44 then fx [25]
  else if k = 46 ∨ k = 51 then fx [11, 11]
  else if k = 49 then fx [11, 24]
  else if k = 48 then rwS 11 [18]
  else if k = 39 then rwS 26 []
  else if k = 41 then rwS 27 []
  else if k = 47 then fx [11, 12, 12, lastOf ks]
  else if k = 40 then (if q = 27 ∨ (q = 0 ∧ ¬ s.toList = []) then fx [11] else fx [11, 11])
  else if k = 38 then (if q = 22 then ⟨[], 23, 1, -1, 20⟩ else if q = 21 then ⟨[], 11, 1, -1, 20⟩ else rwS 11 [])
  else stmtShape k q (typedB ks)

theorem hrow_old1 (w : World) (A B C : Obj) : (((w.alloc A).alloc B).alloc C).heap[w.heap.size + 1]? = some B := by
  rw [heap_alloc_old _ _ (by simp)]; exact heap_alloc2_new w A B
theorem hrow_old2 (w : World) (A B C D : Obj) : ((((w.alloc A).alloc B).alloc C).alloc D).heap[w.heap.size + 1]? = some B := by
  rw [heap_alloc_old _ _ (by simp)]; exact hrow_old1 w A B C

theorem hrow_old3 (w : World) (A B C D : Obj) : ((((w.alloc A).alloc B).alloc C).alloc D).heap[w.heap.size + 1 + 1]? = some C := by
  have h := hrow_old1 (w.alloc A) B C D
  rw [World.size_alloc] at h
  exact h

theorem hrow_five (w : World) (g : Nat) (t : TypeId) (z0 z1 z2 z3 z4 v0 v1 v2 v3 v4 : Value) (h : w.heap[g]? = some (.cells #[z0, z1, z2, z3, z4] t)) :
    (((((w.setCell ⟨g, 0, none⟩ v0).setCell ⟨g, 1, none⟩ v1).setCell ⟨g, 2, none⟩ v2).setCell ⟨g, 3, none⟩ v3).setCell ⟨g, 4, none⟩ v4).heap[g]? = some (.cells #[v0, v1, v2, v3, v4] t) :=
  heap_setCell_same _ _ _ _ _ _ (heap_setCell_same _ _ _ _ _ _ (heap_setCell_same _ _ _ _ _ _ (heap_setCell_same _ _ _ _ _ _ (heap_setCell_same _ _ _ _ _ _ h))))

theorem stmt_leafT (w w' : World) (C : Obj) (x1 x2 x3 x4 y0 y1 : Int) (t : TypeId) (z0 z1 z2 z3 z4 : Value) (h : w'.heap[w.heap.size + 1]? = some (.cells #[z0, z1, z2, z3, z4] 99)) (hsz : w.heap.size + 1 < w'.heap.size) (hB : Below w.heap.size w w')
    (tmps : Array Value) (h4 : tmps.getD 4 undef = .pointer (some ⟨w.heap.size + 1, 0, none⟩)) (r : Shp) (hr : r = ⟨[y0, y1], x1, x2, x3, x4⟩) :
    bodyPost Tryz.prog Tryz.f120 (fun e w' => ∃ v, e = .returned v ∧ ShapeIs w.heap.size w' v r ∧ Below w.heap.size w w') .ret { tmps := tmps, defers := [] }
      (((((((w'.setCell ⟨w.heap.size + 1, 0, none⟩ (.slice (some ⟨w'.heap.size, 0, none⟩) 2 2)).setCell ⟨w.heap.size + 1, 1, none⟩ (.int .i64 x1)).setCell ⟨w.heap.size + 1, 2, none⟩ (.int .i64 x2)).setCell ⟨w.heap.size + 1, 3, none⟩ (.int .i64 x3)).setCell ⟨w.heap.size + 1, 4, none⟩ (.int .i64 x4)).alloc (.cells #[.int .i64 y0, .int .i64 y1] t)).alloc C) := by
  subst hr
  have h5 := hrow_five w' (w.heap.size + 1) _ z0 z1 z2 z3 z4 (.slice (some ⟨w'.heap.size, 0, none⟩) 2 2) (.int .i64 x1) (.int .i64 x2) (.int .i64 x3) (.int .i64 x4) h
  have hBX : Below w.heap.size w (((((w'.setCell ⟨w.heap.size + 1, 0, none⟩ (.slice (some ⟨w'.heap.size, 0, none⟩) 2 2)).setCell ⟨w.heap.size + 1, 1, none⟩ (.int .i64 x1)).setCell ⟨w.heap.size + 1, 2, none⟩ (.int .i64 x2)).setCell ⟨w.heap.size + 1, 3, none⟩ (.int .i64 x3)).setCell ⟨w.heap.size + 1, 4, none⟩ (.int .i64 x4)) :=
    ((((hB.setCell (p := ⟨w.heap.size + 1, 0, none⟩) (Nat.le_succ _) _).setCell (p := ⟨w.heap.size + 1, 1, none⟩) (Nat.le_succ _) _).setCell (p := ⟨w.heap.size + 1, 2, none⟩) (Nat.le_succ _) _).setCell (p := ⟨w.heap.size + 1, 3, none⟩) (Nat.le_succ _) _).setCell (p := ⟨w.heap.size + 1, 4, none⟩) (Nat.le_succ _) _
  have hX : (((((w'.setCell ⟨w.heap.size + 1, 0, none⟩ (.slice (some ⟨w'.heap.size, 0, none⟩) 2 2)).setCell ⟨w.heap.size + 1, 1, none⟩ (.int .i64 x1)).setCell ⟨w.heap.size + 1, 2, none⟩ (.int .i64 x2)).setCell ⟨w.heap.size + 1, 3, none⟩ (.int .i64 x3)).setCell ⟨w.heap.size + 1, 4, none⟩ (.int .i64 x4)).heap.size = w'.heap.size := by simp
  generalize (((((w'.setCell ⟨w.heap.size + 1, 0, none⟩ (.slice (some ⟨w'.heap.size, 0, none⟩) 2 2)).setCell ⟨w.heap.size + 1, 1, none⟩ (.int .i64 x1)).setCell ⟨w.heap.size + 1, 2, none⟩ (.int .i64 x2)).setCell ⟨w.heap.size + 1, 3, none⟩ (.int .i64 x3)).setCell ⟨w.heap.size + 1, 4, none⟩ (.int .i64 x4)) = X at h5 hBX hX ⊢
  have h6 : ((X.alloc (.cells #[.int .i64 y0, .int .i64 y1] t)).alloc C).heap[w.heap.size + 1]? = some (.cells #[.slice (some ⟨w'.heap.size, 0, none⟩) 2 2, .int .i64 x1, .int .i64 x2, .int .i64 x3, .int .i64 x4] 99) := by
    rw [heap_alloc_old _ _ (by simp; omega), heap_alloc_old _ _ (by omega)]; exact h5
  have h7 : ((X.alloc (.cells #[.int .i64 y0, .int .i64 y1] t)).alloc C).heap[w'.heap.size]? = some (.cells #[.int .i64 y0, .int .i64 y1] t) := by rw [← hX]; exact heap_alloc2_old _ _ _
  refine bodyPost_ret (results_cell_row rfl _ _ (w.heap.size + 1) 99 _ _ _ h4 h6 Tryz.underlying99 rfl (by kernel_rfl)) rfl
    ⟨_, rfl, ⟨_, 2, rfl, by simp, .inr ⟨_, rfl, by omega, by simp; omega, ?_⟩⟩, (hBX.alloc hBX.size _).alloc (by have := hBX.size; simp; omega) _⟩
  simp [CellsAt, cell_of_row _ _ _ _ _ _ h7]

theorem stmt_leaf0 (w : World) (A C : Obj) (x1 x2 x3 x4 : Int) (tmps : Array Value) (h4 : tmps.getD 4 undef = .pointer (some ⟨w.heap.size + 1, 0, none⟩)) (r : Shp) (hr : r = ⟨[], x1, x2, x3, x4⟩) :
    bodyPost Tryz.prog Tryz.f120 (fun e w' => ∃ v, e = .returned v ∧ ShapeIs w.heap.size w' v r ∧ Below w.heap.size w w') .ret { tmps := tmps, defers := [] }
      (((w.alloc A).alloc (.cells #[.slice none 0 0, .int .i64 x1, .int .i64 x2, .int .i64 x3, .int .i64 x4] 99)).alloc C) := by
  subst hr
  exact bodyPost_ret (results_cell_row rfl _ _ (w.heap.size + 1) 99 _ _ _ h4 (hrow_old1 _ _ _ _) Tryz.underlying99 rfl (by kernel_rfl)) rfl
    ⟨_, rfl, ⟨none, 0, rfl, by simp, .inl rfl⟩, (((Below.refl _ _).alloc (Nat.le_refl _) _).alloc (by simp) _).alloc (by simp; omega) _⟩

theorem stmt_leaf1 (w : World) (A C : Obj) (x1 x2 x3 x4 y0 : Int) (t : TypeId) (tmps : Array Value) (h4 : tmps.getD 4 undef = .pointer (some ⟨w.heap.size + 1, 0, none⟩)) (r : Shp) (hr : r = ⟨[y0], x1, x2, x3, x4⟩) :
    bodyPost Tryz.prog Tryz.f120 (fun e w' => ∃ v, e = .returned v ∧ ShapeIs w.heap.size w' v r ∧ Below w.heap.size w w') .ret { tmps := tmps, defers := [] }
      ((((w.alloc A).alloc (.cells #[.slice (some ⟨w.heap.size + 1 + 1, 0, none⟩) 1 1, .int .i64 x1, .int .i64 x2, .int .i64 x3, .int .i64 x4] 99)).alloc (.cells #[.int .i64 y0] t)).alloc C) := by
  subst hr
  refine bodyPost_ret (results_cell_row rfl _ _ (w.heap.size + 1) 99 _ _ _ h4 (hrow_old2 _ _ _ _ _) Tryz.underlying99 rfl (by kernel_rfl)) rfl
    ⟨_, rfl, ⟨_, 1, rfl, by simp, .inr ⟨_, rfl, by omega, by simp, ?_⟩⟩, ((((Below.refl _ _).alloc (Nat.le_refl _) _).alloc (by simp) _).alloc (by simp; omega) _).alloc (by simp; omega) _⟩
  have h := hrow_old3 w A (.cells #[.slice (some ⟨w.heap.size + 1 + 1, 0, none⟩) 1 1, .int .i64 x1, .int .i64 x2, .int .i64 x3, .int .i64 x4] 99) (.cells #[.int .i64 y0] t) C
  simp [CellsAt, cell_of_row _ _ _ _ _ _ h]

theorem stmt_leaf2 (w : World) (A C : Obj) (x1 x2 x3 x4 y0 y1 : Int) (t : TypeId) (tmps : Array Value) (h4 : tmps.getD 4 undef = .pointer (some ⟨w.heap.size + 1, 0, none⟩)) (r : Shp) (hr : r = ⟨[y0, y1], x1, x2, x3, x4⟩) :
    bodyPost Tryz.prog Tryz.f120 (fun e w' => ∃ v, e = .returned v ∧ ShapeIs w.heap.size w' v r ∧ Below w.heap.size w w') .ret { tmps := tmps, defers := [] }
      ((((w.alloc A).alloc (.cells #[.slice (some ⟨w.heap.size + 1 + 1, 0, none⟩) 2 2, .int .i64 x1, .int .i64 x2, .int .i64 x3, .int .i64 x4] 99)).alloc (.cells #[.int .i64 y0, .int .i64 y1] t)).alloc C) := by
  subst hr
  refine bodyPost_ret (results_cell_row rfl _ _ (w.heap.size + 1) 99 _ _ _ h4 (hrow_old2 _ _ _ _ _) Tryz.underlying99 rfl (by kernel_rfl)) rfl
    ⟨_, rfl, ⟨_, 2, rfl, by simp, .inr ⟨_, rfl, by omega, by simp, ?_⟩⟩, ((((Below.refl _ _).alloc (Nat.le_refl _) _).alloc (by simp) _).alloc (by simp; omega) _).alloc (by simp; omega) _⟩
  have h := hrow_old3 w A (.cells #[.slice (some ⟨w.heap.size + 1 + 1, 0, none⟩) 2 2, .int .i64 x1, .int .i64 x2, .int .i64 x3, .int .i64 x4] 99) (.cells #[.int .i64 y0, .int .i64 y1] t) C
  simp [CellsAt, cell_of_row _ _ _ _ _ _ h]

theorem stmt_leaf3 (w : World) (A C : Obj) (x1 x2 x3 x4 y0 y1 y2 : Int) (t : TypeId) (tmps : Array Value) (h4 : tmps.getD 4 undef = .pointer (some ⟨w.heap.size + 1, 0, none⟩)) (r : Shp) (hr : r = ⟨[y0, y1, y2], x1, x2, x3, x4⟩) :
    bodyPost Tryz.prog Tryz.f120 (fun e w' => ∃ v, e = .returned v ∧ ShapeIs w.heap.size w' v r ∧ Below w.heap.size w w') .ret { tmps := tmps, defers := [] }
      ((((w.alloc A).alloc (.cells #[.slice (some ⟨w.heap.size + 1 + 1, 0, none⟩) 3 3, .int .i64 x1, .int .i64 x2, .int .i64 x3, .int .i64 x4] 99)).alloc (.cells #[.int .i64 y0, .int .i64 y1, .int .i64 y2] t)).alloc C) := by
  subst hr
  refine bodyPost_ret (results_cell_row rfl _ _ (w.heap.size + 1) 99 _ _ _ h4 (hrow_old2 _ _ _ _ _) Tryz.underlying99 rfl (by kernel_rfl)) rfl
    ⟨_, rfl, ⟨_, 3, rfl, by simp, .inr ⟨_, rfl, by omega, by simp, ?_⟩⟩, ((((Below.refl _ _).alloc (Nat.le_refl _) _).alloc (by simp) _).alloc (by simp; omega) _).alloc (by simp; omega) _⟩
  have h := hrow_old3 w A (.cells #[.slice (some ⟨w.heap.size + 1 + 1, 0, none⟩) 3 3, .int .i64 x1, .int .i64 x2, .int .i64 x3, .int .i64 x4] 99) (.cells #[.int .i64 y0, .int .i64 y1, .int .i64 y2] t) C
  simp [CellsAt, cell_of_row _ _ _ _ _ _ h]

theorem stmt_leaf4 (w : World) (A C : Obj) (x1 x2 x3 x4 y0 y1 y2 y3 : Int) (t : TypeId) (tmps : Array Value) (h4 : tmps.getD 4 undef = .pointer (some ⟨w.heap.size + 1, 0, none⟩)) (r : Shp) (hr : r = ⟨[y0, y1, y2, y3], x1, x2, x3, x4⟩) :
    bodyPost Tryz.prog Tryz.f120 (fun e w' => ∃ v, e = .returned v ∧ ShapeIs w.heap.size w' v r ∧ Below w.heap.size w w') .ret { tmps := tmps, defers := [] }
      ((((w.alloc A).alloc (.cells #[.slice (some ⟨w.heap.size + 1 + 1, 0, none⟩) 4 4, .int .i64 x1, .int .i64 x2, .int .i64 x3, .int .i64 x4] 99)).alloc (.cells #[.int .i64 y0, .int .i64 y1, .int .i64 y2, .int .i64 y3] t)).alloc C) := by
  subst hr
  refine bodyPost_ret (results_cell_row rfl _ _ (w.heap.size + 1) 99 _ _ _ h4 (hrow_old2 _ _ _ _ _) Tryz.underlying99 rfl (by kernel_rfl)) rfl
    ⟨_, rfl, ⟨_, 4, rfl, by simp, .inr ⟨_, rfl, by omega, by simp, ?_⟩⟩, ((((Below.refl _ _).alloc (Nat.le_refl _) _).alloc (by simp) _).alloc (by simp; omega) _).alloc (by simp; omega) _⟩
  have h := hrow_old3 w A (.cells #[.slice (some ⟨w.heap.size + 1 + 1, 0, none⟩) 4 4, .int .i64 x1, .int .i64 x2, .int .i64 x3, .int .i64 x4] 99) (.cells #[.int .i64 y0, .int .i64 y1, .int .i64 y2, .int .i64 y3] t) C
  simp [CellsAt, cell_of_row _ _ _ _ _ _ h]

theorem shp_leaf0 (w : World) (A C : Obj) (x1 x2 x3 x4 : Int) (tmps : Array Value) (h4 : tmps.getD 4 undef = .pointer (some ⟨w.heap.size + 1, 0, none⟩)) (r : Shp) (hr : r = ⟨[], x1, x2, x3, x4⟩) :
    bodyPost Tryz.prog Tryz.f69 (fun e w' => ∃ v, e = .returned v ∧ ShapeIs w.heap.size w' v r ∧ Below w.heap.size w w') .ret { tmps := tmps, defers := [] }
      (((w.alloc A).alloc (.cells #[.slice none 0 0, .int .i64 x1, .int .i64 x2, .int .i64 x3, .int .i64 x4] 99)).alloc C) := by
  subst hr
  exact bodyPost_ret (results_cell_row rfl _ _ (w.heap.size + 1) 99 _ _ _ h4 (hrow_old1 _ _ _ _) Tryz.underlying99 rfl (by kernel_rfl)) rfl
    ⟨_, rfl, ⟨none, 0, rfl, by simp, .inl rfl⟩, (((Below.refl _ _).alloc (Nat.le_refl _) _).alloc (by simp) _).alloc (by simp; omega) _⟩

theorem shp_leaf1 (w : World) (A C : Obj) (x1 x2 x3 x4 y0 : Int) (t : TypeId) (tmps : Array Value) (h4 : tmps.getD 4 undef = .pointer (some ⟨w.heap.size + 1, 0, none⟩)) (r : Shp) (hr : r = ⟨[y0], x1, x2, x3, x4⟩) :
    bodyPost Tryz.prog Tryz.f69 (fun e w' => ∃ v, e = .returned v ∧ ShapeIs w.heap.size w' v r ∧ Below w.heap.size w w') .ret { tmps := tmps, defers := [] }
      ((((w.alloc A).alloc (.cells #[.slice (some ⟨w.heap.size + 1 + 1, 0, none⟩) 1 1, .int .i64 x1, .int .i64 x2, .int .i64 x3, .int .i64 x4] 99)).alloc (.cells #[.int .i64 y0] t)).alloc C) := by
  subst hr
  refine bodyPost_ret (results_cell_row rfl _ _ (w.heap.size + 1) 99 _ _ _ h4 (hrow_old2 _ _ _ _ _) Tryz.underlying99 rfl (by kernel_rfl)) rfl
    ⟨_, rfl, ⟨_, 1, rfl, by simp, .inr ⟨_, rfl, by omega, by simp, ?_⟩⟩, ((((Below.refl _ _).alloc (Nat.le_refl _) _).alloc (by simp) _).alloc (by simp; omega) _).alloc (by simp; omega) _⟩
  have h := hrow_old3 w A (.cells #[.slice (some ⟨w.heap.size + 1 + 1, 0, none⟩) 1 1, .int .i64 x1, .int .i64 x2, .int .i64 x3, .int .i64 x4] 99) (.cells #[.int .i64 y0] t) C
  simp [CellsAt, cell_of_row _ _ _ _ _ _ h]

theorem shp_leaf2 (w : World) (A C : Obj) (x1 x2 x3 x4 y0 y1 : Int) (t : TypeId) (tmps : Array Value) (h4 : tmps.getD 4 undef = .pointer (some ⟨w.heap.size + 1, 0, none⟩)) (r : Shp) (hr : r = ⟨[y0, y1], x1, x2, x3, x4⟩) :
    bodyPost Tryz.prog Tryz.f69 (fun e w' => ∃ v, e = .returned v ∧ ShapeIs w.heap.size w' v r ∧ Below w.heap.size w w') .ret { tmps := tmps, defers := [] }
      ((((w.alloc A).alloc (.cells #[.slice (some ⟨w.heap.size + 1 + 1, 0, none⟩) 2 2, .int .i64 x1, .int .i64 x2, .int .i64 x3, .int .i64 x4] 99)).alloc (.cells #[.int .i64 y0, .int .i64 y1] t)).alloc C) := by
  subst hr
  refine bodyPost_ret (results_cell_row rfl _ _ (w.heap.size + 1) 99 _ _ _ h4 (hrow_old2 _ _ _ _ _) Tryz.underlying99 rfl (by kernel_rfl)) rfl
    ⟨_, rfl, ⟨_, 2, rfl, by simp, .inr ⟨_, rfl, by omega, by simp, ?_⟩⟩, ((((Below.refl _ _).alloc (Nat.le_refl _) _).alloc (by simp) _).alloc (by simp; omega) _).alloc (by simp; omega) _⟩
  have h := hrow_old3 w A (.cells #[.slice (some ⟨w.heap.size + 1 + 1, 0, none⟩) 2 2, .int .i64 x1, .int .i64 x2, .int .i64 x3, .int .i64 x4] 99) (.cells #[.int .i64 y0, .int .i64 y1] t) C
  simp [CellsAt, cell_of_row _ _ _ _ _ _ h]

theorem shp_leaf3 (w : World) (A C : Obj) (x1 x2 x3 x4 y0 y1 y2 : Int) (t : TypeId) (tmps : Array Value) (h4 : tmps.getD 4 undef = .pointer (some ⟨w.heap.size + 1, 0, none⟩)) (r : Shp) (hr : r = ⟨[y0, y1, y2], x1, x2, x3, x4⟩) :
    bodyPost Tryz.prog Tryz.f69 (fun e w' => ∃ v, e = .returned v ∧ ShapeIs w.heap.size w' v r ∧ Below w.heap.size w w') .ret { tmps := tmps, defers := [] }
      ((((w.alloc A).alloc (.cells #[.slice (some ⟨w.heap.size + 1 + 1, 0, none⟩) 3 3, .int .i64 x1, .int .i64 x2, .int .i64 x3, .int .i64 x4] 99)).alloc (.cells #[.int .i64 y0, .int .i64 y1, .int .i64 y2] t)).alloc C) := by
  subst hr
  refine bodyPost_ret (results_cell_row rfl _ _ (w.heap.size + 1) 99 _ _ _ h4 (hrow_old2 _ _ _ _ _) Tryz.underlying99 rfl (by kernel_rfl)) rfl
    ⟨_, rfl, ⟨_, 3, rfl, by simp, .inr ⟨_, rfl, by omega, by simp, ?_⟩⟩, ((((Below.refl _ _).alloc (Nat.le_refl _) _).alloc (by simp) _).alloc (by simp; omega) _).alloc (by simp; omega) _⟩
  have h := hrow_old3 w A (.cells #[.slice (some ⟨w.heap.size + 1 + 1, 0, none⟩) 3 3, .int .i64 x1, .int .i64 x2, .int .i64 x3, .int .i64 x4] 99) (.cells #[.int .i64 y0, .int .i64 y1, .int .i64 y2] t) C
  simp [CellsAt, cell_of_row _ _ _ _ _ _ h]

theorem shp_leaf4 (w : World) (A C : Obj) (x1 x2 x3 x4 y0 y1 y2 y3 : Int) (t : TypeId) (tmps : Array Value) (h4 : tmps.getD 4 undef = .pointer (some ⟨w.heap.size + 1, 0, none⟩)) (r : Shp) (hr : r = ⟨[y0, y1, y2, y3], x1, x2, x3, x4⟩) :
    bodyPost Tryz.prog Tryz.f69 (fun e w' => ∃ v, e = .returned v ∧ ShapeIs w.heap.size w' v r ∧ Below w.heap.size w w') .ret { tmps := tmps, defers := [] }
      ((((w.alloc A).alloc (.cells #[.slice (some ⟨w.heap.size + 1 + 1, 0, none⟩) 4 4, .int .i64 x1, .int .i64 x2, .int .i64 x3, .int .i64 x4] 99)).alloc (.cells #[.int .i64 y0, .int .i64 y1, .int .i64 y2, .int .i64 y3] t)).alloc C) := by
  subst hr
  refine bodyPost_ret (results_cell_row rfl _ _ (w.heap.size + 1) 99 _ _ _ h4 (hrow_old2 _ _ _ _ _) Tryz.underlying99 rfl (by kernel_rfl)) rfl
    ⟨_, rfl, ⟨_, 4, rfl, by simp, .inr ⟨_, rfl, by omega, by simp, ?_⟩⟩, ((((Below.refl _ _).alloc (Nat.le_refl _) _).alloc (by simp) _).alloc (by simp; omega) _).alloc (by simp; omega) _⟩
  have h := hrow_old3 w A (.cells #[.slice (some ⟨w.heap.size + 1 + 1, 0, none⟩) 4 4, .int .i64 x1, .int .i64 x2, .int .i64 x3, .int .i64 x4] 99) (.cells #[.int .i64 y0, .int .i64 y1, .int .i64 y2, .int .i64 y3] t) C
  simp [CellsAt, cell_of_row _ _ _ _ _ _ h]


set_option maxRecDepth 100000 in
set_option maxHeartbeats 4000000 in
theorem statement_any (k : Int) (s : ByteArray) (n a : Int) (A : Option Addr) (cap : Nat) (ks : List Nd) (q : Int) (w : World) (h : Gl w)
    (hl : Lies w w.heap.size (.mk k s n a ks) (.agg #[.int .i64 k, .string s, .int .i64 n, .int .i64 a, .slice A ks.length cap])) :
    Calls Tryz.prog 120 #[.agg #[.int .i64 k, .string s, .int .i64 n, .int .i64 a, .slice A ks.length cap], .int .i64 q] w fun e w' =>
      ∃ v, e = .returned v ∧ ShapeIs w.heap.size w' v (stmtShape k q (typedB ks)) ∧ Below w.heap.size w w' := by
  have h17 : k = 17 → stmtShape k q (typedB ks) = rwS 10 [] := fun h => by subst h; rfl
  have H17 := Lib.hid h17
  clear h17
  have h19 : k = 19 → stmtShape k q (typedB ks) = fx [4, 4, 16] := fun h => by subst h; rfl
  have H19 := Lib.hid h19
  clear h19
  have h21 : k = 21 → stmtShape k q (typedB ks) = fx [4, 4, 16] := fun h => by subst h; rfl
  have H21 := Lib.hid h21
  clear h21
  have h20 : k = 20 → stmtShape k q (typedB ks) = fx [13, 11] := fun h => by subst h; rfl
  have H20 := Lib.hid h20
  clear h20
  have h22 : k = 22 → stmtShape k q (typedB ks) = fx [11, 9, 14] := fun h => by subst h; rfl
  have H22 := Lib.hid h22
  clear h22
  have h23 : k = 23 → stmtShape k q (typedB ks) = fx [12, 9] := fun h => by subst h; rfl
  have H23 := Lib.hid h23
  clear h23
  have h24 : k = 24 → stmtShape k q (typedB ks) = fx [15, 15, 11, 9] := fun h => by subst h; rfl
  have H24 := Lib.hid h24
  clear h24
  have h25 : k = 25 → stmtShape k q (typedB ks) = rwS 19 [12] := fun h => by subst h; rfl
  have H25 := Lib.hid h25
  clear h25
  have h26 : k = 26 → stmtShape k q (typedB ks) = rwS 20 [15, 11] := fun h => by subst h; rfl
  have H26 := Lib.hid h26
  clear h26
  have h28 : k = 28 → stmtShape k q (typedB ks) = fx [12] := fun h => by subst h; rfl
  have H28 := Lib.hid h28
  clear h28
  have h29 : k = 29 → stmtShape k q (typedB ks) = fx [17] := fun h => by subst h; rfl
  have H29 := Lib.hid h29
  clear h29
  have h30 : k = 30 → stmtShape k q (typedB ks) = fx [17] := fun h => by subst h; rfl
  have H30 := Lib.hid h30
  clear h30
  have h34 : k = 34 → stmtShape k q (typedB ks) = fx [13] := fun h => by subst h; rfl
  have H34 := Lib.hid h34
  clear h34
  have h27 : k = 27 → stmtShape k q (typedB ks) = if q = 20 ∨ (q = 0 ∧ typedB ks = true) then fx [22, 9] else fx [21, 9] := fun h => by subst h; rfl
  have H27 := Lib.hid h27
  clear h27
  have h00 : (k == 17) = false → (k == 19) = false → (k == 21) = false → (k == 20) = false → (k == 22) = false → (k == 23) = false → (k == 24) = false → (k == 25) = false → (k == 26) = false → (k == 27) = false → (k == 28) = false → (k == 29) = false → (k == 30) = false → (k == 34) = false → stmtShape k q (typedB ks) = fx [] := by
    intros
    simp_all [stmtShape]
  have H00 := Lib.hid h00
  clear h00
  obtain ⟨r, HF⟩ : ∃ r, Hid (stmtShape k q (typedB ks) = r) := ⟨_, rfl⟩
  rw [HF.out]
  have H := Lib.hid h
  have HL := Lib.hid hl
  clear h hl
  have hb0 : ∀ v t v' t', Below w.heap.size w ((w.alloc (.cells v t)).alloc (.cells v' t')) := fun v t v' t' => ((Below.refl _ _).alloc (Nat.le_refl _) _).alloc (by simp) _
  have HB := Lib.hid hb0
  have hb3 : ∀ v t v' t' v'' t'', Below w.heap.size w (((w.alloc (.cells v t)).alloc (.cells v' t')).alloc (.cells v'' t'')) := fun v t v' t' v'' t'' => (hb0 _ _ _ _).alloc (by simp; omega) _
  have HB3 := Lib.hid hb3
  have hb4 : ∀ v t v' t' v'' t'' v3 t3, Below w.heap.size w ((((w.alloc (.cells v t)).alloc (.cells v' t')).alloc (.cells v'' t'')).alloc (.cells v3 t3)) := fun v t v' t' v'' t'' v3 t3 => (hb3 _ _ _ _ _ _).alloc (by simp; omega) _
  have HB4 := Lib.hid hb4
  clear hb0 hb3 hb4
  go_enter Tryz.func120, Tryz.ntmps120
  go_wp2_with (first
    | (go_at_call 118; refine (fixed_any _ _ _ _).mono ?_; rintro e w' ⟨rfl, rfl⟩)
    | (go_at_call 117; refine (row_any _ _ _ _ _).mono ?_; rintro e w' ⟨rfl, rfl⟩)
    | (go_at_call 175; refine (typed_any k s n a A cap ks _ (H.out.up (HB.out _ _ _ _)) (HL.out.up (HB.out _ _ _ _))).mono ?_; rintro e w' ⟨rfl, hb⟩
       have hrow : w'.heap[w.heap.size + 1]? = some (.cells #[.slice none 0 0, .int .i64 0, .int .i64 0, .int .i64 0, .int .i64 0] 99) := (hb.block _ (by simp)).trans (heap_alloc2_new _ _ _)
       have HROW := Lib.hid hrow
       have e0 : ∀ i, w'.cell? ⟨w.heap.size + 1, i, none⟩ = (#[Value.slice none 0 0, .int .i64 0, .int .i64 0, .int .i64 0, .int .i64 0])[i]? := fun i => cell_of_row w' _ i _ _ _ hrow
       have c0 : w'.cell? ⟨w.heap.size + 1, 0, none⟩ = some (.slice none 0 0) := e0 0
       have c1 : w'.cell? ⟨w.heap.size + 1, 1, none⟩ = some (.int .i64 0) := e0 1
       have c2 : w'.cell? ⟨w.heap.size + 1, 2, none⟩ = some (.int .i64 0) := e0 2
       have c3 : w'.cell? ⟨w.heap.size + 1, 3, none⟩ = some (.int .i64 0) := e0 3
       have c4 : w'.cell? ⟨w.heap.size + 1, 4, none⟩ = some (.int .i64 0) := e0 4
       have f0 : ∀ i, w'.frozen? ⟨w.heap.size + 1, i, none⟩ = false := fun i => frozen_of_row w' _ i _ _ hrow
       have hsz : w.heap.size + 1 < w'.heap.size := by have := hb.size; simp at this; omega
       have hsz2 : w.heap.size < w'.heap.size := by omega
       have hne : ¬ w.heap.size + 1 = w'.heap.size := by omega
       have hne2 : ¬ w.heap.size + 1 = w'.heap.size + 1 := by omega
       have HBB := Lib.hid hb
       clear hrow e0 hb))
  all_goals first
    | (have hR := HROW.out
       have hBW := (HB.out _ _ _ _).trans (HBB.out.mono (by simp; omega))
       first
         | exact stmt_leafT w w' _ _ _ _ _ _ _ _ _ _ _ _ _ hR hsz hBW _ rfl _ (HF.out.symm.trans ((H27.out (eq_of_beq (by assumption))).trans (if_pos (.inr ⟨by assumption, by assumption⟩))))
         | exact stmt_leafT w w' _ _ _ _ _ _ _ _ _ _ _ _ _ hR hsz hBW _ rfl _ (HF.out.symm.trans ((H27.out (eq_of_beq (by assumption))).trans (if_neg (fun h => h.elim (by assumption) (fun h => Bool.noConfusion (h.2.symm.trans (by assumption : typedB ks = false))))))))
    | (exact stmt_leaf0 w _ _ _ _ _ _ _ rfl _ (HF.out.symm.trans (H17.out (eq_of_beq (by assumption)))))
    | (exact stmt_leaf3 w _ _ _ _ _ _ _ _ _ _ _ rfl _ (HF.out.symm.trans (H19.out (eq_of_beq (by assumption)))))
    | (exact stmt_leaf3 w _ _ _ _ _ _ _ _ _ _ _ rfl _ (HF.out.symm.trans (H21.out (eq_of_beq (by assumption)))))
    | (exact stmt_leaf2 w _ _ _ _ _ _ _ _ _ _ rfl _ (HF.out.symm.trans (H20.out (eq_of_beq (by assumption)))))
    | (exact stmt_leaf3 w _ _ _ _ _ _ _ _ _ _ _ rfl _ (HF.out.symm.trans (H22.out (eq_of_beq (by assumption)))))
    | (exact stmt_leaf2 w _ _ _ _ _ _ _ _ _ _ rfl _ (HF.out.symm.trans (H23.out (eq_of_beq (by assumption)))))
    | (exact stmt_leaf4 w _ _ _ _ _ _ _ _ _ _ _ _ rfl _ (HF.out.symm.trans (H24.out (eq_of_beq (by assumption)))))
    | (exact stmt_leaf1 w _ _ _ _ _ _ _ _ _ rfl _ (HF.out.symm.trans (H25.out (eq_of_beq (by assumption)))))
    | (exact stmt_leaf2 w _ _ _ _ _ _ _ _ _ _ rfl _ (HF.out.symm.trans (H26.out (eq_of_beq (by assumption)))))
    | (exact stmt_leaf1 w _ _ _ _ _ _ _ _ _ rfl _ (HF.out.symm.trans (H28.out (eq_of_beq (by assumption)))))
    | (exact stmt_leaf1 w _ _ _ _ _ _ _ _ _ rfl _ (HF.out.symm.trans (H29.out (eq_of_beq (by assumption)))))
    | (exact stmt_leaf1 w _ _ _ _ _ _ _ _ _ rfl _ (HF.out.symm.trans (H30.out (eq_of_beq (by assumption)))))
    | (exact stmt_leaf1 w _ _ _ _ _ _ _ _ _ rfl _ (HF.out.symm.trans (H34.out (eq_of_beq (by assumption)))))
    | (exact stmt_leaf0 w _ _ _ _ _ _ _ rfl _ (HF.out.symm.trans (H00.out (by assumption) (by assumption) (by assumption) (by assumption) (by assumption) (by assumption) (by assumption) (by assumption) (by assumption) (by assumption) (by assumption) (by assumption) (by assumption) (by assumption))))
    | (exact stmt_leaf2 w _ _ _ _ _ _ _ _ _ _ rfl _ (HF.out.symm.trans ((H27.out (eq_of_beq (by assumption))).trans (if_pos (.inl (by assumption))))))
    | (exact stmt_leaf2 w _ _ _ _ _ _ _ _ _ _ rfl _ (HF.out.symm.trans ((H27.out (eq_of_beq (by assumption))).trans (if_neg (fun h => h.elim (by assumption) (fun h => (by assumption : ¬ q = 0) h.1))))))

end Go.Proofs.YtokhfhibdeneeaaGreatDoor
