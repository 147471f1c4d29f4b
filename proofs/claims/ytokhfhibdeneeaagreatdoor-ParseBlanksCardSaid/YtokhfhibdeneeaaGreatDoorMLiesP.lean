/- Trees whose lists lie in blocks that a predicate picks. The parser's reader in memory. read$1: what gives up is caught. The reader's small methods. The state of a walk over a reading method. want, name, none, ends, stops. Regions that draw their order: a load may be taken first though an operation that waits for it writes its cell. row and open: what they do with what is handed in. none, ends, stops. A variable whose list grows. A list that lies in a slot: a row of the walk's own that is appended to. Short forms that the walks use: a step of a region each, a row of rewriting rules each, and the places of a row in a list. -/
import Derived.Tactics
import Derived.Tactics2
import Derived.Defers
import Derived.Recover
import Derived.WalkLawsBesides
import Derived.Deep.QuietTactic
import Derived.Maps.AppendAt
import Derived.Deep.RegionHeld
import Derived.Deep.RegionHeld3
import Derived.Deep.AppendLies
import Derived.Test.YtokhfhibdeneeaaGreatDoorMOver
import Derived.Test.YtokhfhibdeneeaaGreatDoorLay
import Derived.Test.YtokhfhibdeneeaaGreatDoorMNd
namespace Go.Proofs.YtokhfhibdeneeaaGreatDoor
open Go.RowKit

mutual
/-- As Lies: all lists lie in blocks of P. -/
def LiesP (w : World) (P : Nat → Prop) : Nd → Value → Prop
  | .mk k s n a ks, v => ∃ (A : Option Addr) (cap : Nat), v = .agg #[.int .i64 k, .string s, .int .i64 n, .int .i64 a, .slice A ks.length cap] ∧
      okI k ∧ okI n ∧ okI a ∧ s.size ≤ 140737488351232 ∧ ks.length ≤ cap ∧ cap ≤ 9223372036854775807 ∧
      (ks = [] ∨ ∃ b o, A = some ⟨b, o, none⟩ ∧ P b ∧ LiesPL w P ks b o)
def LiesPL (w : World) (P : Nat → Prop) : List Nd → Nat → Nat → Prop
  | [], _, _ => True
  | t :: ts, b, o => (∃ c0 c1 c2 c3 c4 : Value, w.cell? ⟨b, o, none⟩ = some c0 ∧ w.cell? ⟨b, o + 1, none⟩ = some c1 ∧ w.cell? ⟨b, o + 2, none⟩ = some c2 ∧
      w.cell? ⟨b, o + 3, none⟩ = some c3 ∧ w.cell? ⟨b, o + 4, none⟩ = some c4 ∧ LiesP w P t (.agg #[c0, c1, c2, c3, c4])) ∧ LiesPL w P ts b (o + 5)
end

mutual
theorem LiesP.toA {w : World} {P : Nat → Prop} {C B : Nat} (hP : ∀ b, P b → C ≤ b ∧ b < B) : ∀ {t : Nd} {v : Value}, LiesP w P t v → LiesA w C B t v
  | .mk k s n a ks, v, h => by
    unfold LiesP at h
    unfold LiesA
    obtain ⟨A, cap, h1, h2, h3, h4, h5, h6, h7, h8⟩ := h
    refine ⟨A, cap, h1, h2, h3, h4, h5, h6, h7, ?_⟩
    rcases h8 with h8 | ⟨b, o, hA, hb, hl⟩
    · exact .inl h8
    · exact .inr ⟨b, o, hA, (hP b hb).1, (hP b hb).2, LiesPL.toA hP hl⟩
theorem LiesPL.toA {w : World} {P : Nat → Prop} {C B : Nat} (hP : ∀ b, P b → C ≤ b ∧ b < B) : ∀ {ts : List Nd} {b o : Nat}, LiesPL w P ts b o → LiesAL w C B ts b o
  | [], _, _, _ => by unfold LiesAL; trivial
  | t :: ts, b, o, h => by
    unfold LiesPL at h
    unfold LiesAL
    obtain ⟨⟨c0, c1, c2, c3, c4, h0, h1, h2, h3, h4, ht⟩, hl⟩ := h
    exact ⟨⟨c0, c1, c2, c3, c4, h0, h1, h2, h3, h4, ht.toA hP⟩, LiesPL.toA hP hl⟩
end
mutual
theorem LiesA.toP {w : World} {P : Nat → Prop} {C B : Nat} (hP : ∀ b, C ≤ b → b < B → P b) : ∀ {t : Nd} {v : Value}, LiesA w C B t v → LiesP w P t v
  | .mk k s n a ks, v, h => by
    unfold LiesA at h
    unfold LiesP
    obtain ⟨A, cap, h1, h2, h3, h4, h5, h6, h7, h8⟩ := h
    refine ⟨A, cap, h1, h2, h3, h4, h5, h6, h7, ?_⟩
    rcases h8 with h8 | ⟨b, o, hA, hc, hb, hl⟩
    · exact .inl h8
    · exact .inr ⟨b, o, hA, hP b hc hb, LiesAL.toP hP hl⟩
theorem LiesAL.toP {w : World} {P : Nat → Prop} {C B : Nat} (hP : ∀ b, C ≤ b → b < B → P b) : ∀ {ts : List Nd} {b o : Nat}, LiesAL w C B ts b o → LiesPL w P ts b o
  | [], _, _, _ => by unfold LiesPL; trivial
  | t :: ts, b, o, h => by
    unfold LiesAL at h
    unfold LiesPL
    obtain ⟨⟨c0, c1, c2, c3, c4, h0, h1, h2, h3, h4, ht⟩, hl⟩ := h
    exact ⟨⟨c0, c1, c2, c3, c4, h0, h1, h2, h3, h4, ht.toP hP⟩, LiesAL.toP hP hl⟩
end
mutual
theorem LiesP.keep {w w' : World} {P P' : Nat → Prop} (hk : ∀ b, P b → w'.heap[b]? = w.heap[b]?) (hP : ∀ b, P b → P' b) : ∀ {t : Nd} {v : Value}, LiesP w P t v → LiesP w' P' t v
  | .mk k s n a ks, v, h => by
    unfold LiesP at h ⊢
    obtain ⟨A, cap, h1, h2, h3, h4, h5, h6, h7, h8⟩ := h
    refine ⟨A, cap, h1, h2, h3, h4, h5, h6, h7, ?_⟩
    rcases h8 with h8 | ⟨b, o, hA, hb, hl⟩
    · exact .inl h8
    · exact .inr ⟨b, o, hA, hP b hb, LiesPL.keep hk hP hb hl⟩
theorem LiesPL.keep {w w' : World} {P P' : Nat → Prop} (hk : ∀ b, P b → w'.heap[b]? = w.heap[b]?) (hP : ∀ b, P b → P' b) : ∀ {ts : List Nd} {b o : Nat}, P b → LiesPL w P ts b o → LiesPL w' P' ts b o
  | [], _, _, _, _ => by unfold LiesPL; trivial
  | t :: ts, b, o, hb, h => by
    unfold LiesPL at h ⊢
    obtain ⟨⟨c0, c1, c2, c3, c4, h0, h1, h2, h3, h4, ht⟩, hl⟩ := h
    have e : ∀ i, w'.cell? ⟨b, i, none⟩ = w.cell? ⟨b, i, none⟩ := fun i => World.cell?_of_block (w := w) (hk b hb)
    exact ⟨⟨c0, c1, c2, c3, c4, (e _).trans h0, (e _).trans h1, (e _).trans h2, (e _).trans h3, (e _).trans h4, ht.keep hk hP⟩, LiesPL.keep hk hP hb hl⟩
end
theorem LiesP.form {w : World} {P : Nat → Prop} {k : Int} {s : ByteArray} {n a : Int} {ks : List Nd} {v : Value} (h : LiesP w P (.mk k s n a ks) v) : ∃ A cap, v = .agg #[.int .i64 k, .string s, .int .i64 n, .int .i64 a, .slice A ks.length cap] := by
  unfold LiesP at h
  obtain ⟨A, cap, h, _⟩ := h
  exact ⟨A, cap, h⟩
/-- The same lists under another head. -/
theorem LiesP.head {w : World} {P : Nat → Prop} {k : Int} {s : ByteArray} {n a : Int} {ks : List Nd} {A : Option Addr} {l cap : Nat} (h : LiesP w P (.mk k s n a ks) (.agg #[.int .i64 k, .string s, .int .i64 n, .int .i64 a, .slice A l cap])) {k' : Int} {s' : ByteArray} {n' a' : Int} (hk : okI k') (hn : okI n') (ha : okI a') (hs : s'.size ≤ 140737488351232) :
    LiesP w P (.mk k' s' n' a' ks) (.agg #[.int .i64 k', .string s', .int .i64 n', .int .i64 a', .slice A l cap]) := by
  unfold LiesP at h ⊢
  obtain ⟨A', cap', h0, _, _, _, _, h5, h6, h7⟩ := h
  simp only [Value.agg.injEq, Array.mk.injEq, List.cons.injEq, and_true, true_and, Value.slice.injEq] at h0
  obtain ⟨rfl, rfl, rfl⟩ := h0
  exact ⟨_, _, rfl, hk, hn, ha, hs, h5, h6, h7⟩
theorem LiesP.leaf {w : World} {P : Nat → Prop} {k : Int} {s : ByteArray} {n a : Int} {A : Option Addr} {cap : Nat} (hk : okI k) (hn : okI n) (ha : okI a) (hs : s.size ≤ 140737488351232) (hc : cap ≤ 9223372036854775807 := by decide) : LiesP w P (.mk k s n a []) (.agg #[.int .i64 k, .string s, .int .i64 n, .int .i64 a, .slice A 0 cap]) := by
  unfold LiesP
  exact ⟨A, cap, rfl, hk, hn, ha, hs, Nat.zero_le _, hc, .inl rfl⟩

def cellsOf : Value → List Value
  | .agg a => a.toList
  | _ => []
/-- The cells of some trees' values, one behind the other. -/
def treeCells (xs : List (Nd × Value)) : List Value := xs.flatMap fun x => cellsOf x.2
theorem treeCells_append (xs ys : List (Nd × Value)) : treeCells (xs ++ ys) = treeCells xs ++ treeCells ys := by simp [treeCells]
theorem treeCells_length {w : World} {P : Nat → Prop} : ∀ {xs : List (Nd × Value)}, (∀ x ∈ xs, LiesP w P x.1 x.2) → (treeCells xs).length = xs.length * 5
  | [], _ => rfl
  | (.mk k s n a ks, v) :: xs, h => by
    obtain ⟨A, cap, e⟩ := (h _ (List.mem_cons_self ..)).form
    simp only at e
    subst e
    have := treeCells_length fun x hx => h x (List.mem_cons_of_mem _ hx)
    simp only [treeCells, List.flatMap_cons, List.length_append, List.length_cons] at this ⊢
    rw [this]
    simp [cellsOf]
    omega
theorem LiesPL.of_cells {w : World} {P : Nat → Prop} {b : Nat} : ∀ (xs : List (Nd × Value)) (o : Nat), (∀ x ∈ xs, LiesP w P x.1 x.2) → (∀ j u, (treeCells xs)[j]? = some u → w.cell? ⟨b, o + j, none⟩ = some u) → LiesPL w P (xs.map (·.1)) b o
  | [], _, _, _ => by unfold LiesPL; trivial
  | (.mk k s n a ks, v) :: xs, o, h, hc => by
    obtain ⟨A, cap, e⟩ := (h _ (List.mem_cons_self ..)).form
    simp only at e
    subst e
    simp only [List.map_cons]
    unfold LiesPL
    refine ⟨⟨_, _, _, _, _, hc 0 _ rfl, hc 1 _ rfl, hc 2 _ rfl, hc 3 _ rfl, hc 4 _ rfl, h _ (List.mem_cons_self ..)⟩, ?_⟩
    refine LiesPL.of_cells xs (o + 5) (fun x hx => h x (List.mem_cons_of_mem _ hx)) fun j u hj => ?_
    have := hc (j + 5) u (by simpa [treeCells, cellsOf] using hj)
    rw [show o + 5 + j = o + (j + 5) from by omega]
    exact this
/-- A node over trees whose cells lie in a block. -/
theorem LiesP.node {w : World} {P : Nat → Prop} {g : Nat} {cs : Array Value} {T : TypeId} {fz : Nat × Nat} (hg : w.heap[g]? = some (.cells cs T fz)) (xs : List (Nd × Value)) (hcs : ∀ (j : Nat) u, (treeCells xs)[j]? = some u → cs[j]? = some u) (hx : ∀ x ∈ xs, LiesP w P x.1 x.2) (hP : P g)
    {k : Int} {s : ByteArray} {n a : Int} (hk : okI k) (hn : okI n) (ha : okI a) (hs : s.size ≤ 140737488351232) {l cap : Nat} (hl : l = xs.length) (hc : l ≤ cap) (hc2 : cap ≤ 9223372036854775807) :
    LiesP w P (.mk k s n a (xs.map (·.1))) (.agg #[.int .i64 k, .string s, .int .i64 n, .int .i64 a, .slice (some ⟨g, 0, none⟩) l cap]) := by
  subst hl
  unfold LiesP
  refine ⟨_, cap, by rw [List.length_map], hk, hn, ha, hs, by rw [List.length_map]; exact hc, hc2, .inr ⟨g, 0, rfl, hP, LiesPL.of_cells xs 0 hx fun j u hj => ?_⟩⟩
  rw [Nat.zero_add, cell_of_row w g j _ _ _ hg]
  exact hcs j u hj
end Go.Proofs.YtokhfhibdeneeaaGreatDoor

namespace Go.Proofs.YtokhfhibdeneeaaGreatDoor
open Go.RowKit

/-- Where a reader lies: its block, its tokens' block, what the slice of them says. -/
structure Rm where
  bp : Nat
  tb : Nat
  A : Option Addr
  cap : Nat
  long : Int

def Tk.val (t : Tk) : Value := .agg #[.int .i64 t.kind, .string t.str, .int .i64 t.at_]

/-- What the tokens are. -/
structure EnvOk (E : Env) (M : Rm) : Prop where
  ok : E.Ok
  n : E.n ≤ 100000
  past : ∀ j, E.n ≤ j → E.tok j = ⟨0, [], M.long⟩
  A : E.n = 0 ∨ M.A = some ⟨M.tb, 0, none⟩
  ne : M.tb ≠ M.bp
  cap : E.n ≤ M.cap ∧ M.cap ≤ 9223372036854775807
  kind : ∀ j, okI (E.tok j).kind
  at_ : ∀ j, okI (E.tok j).at_
  text : ∀ j, (E.tok j).text.length ≤ 1000000

theorem EnvOk.str {E : Env} {M : Rm} (h : EnvOk E M) (j : Nat) : (E.tok j).str.size ≤ 140737488351232 := by
  have := h.text j
  show (E.tok j).text.length ≤ _
  omega
theorem bs_size {l : List UInt8} {n : Nat} (h : l.length ≤ n) : (bs l).size ≤ n := h

def rdCells (E : Env) (M : Rm) (s : Rs) : Array Value := #[.slice M.A E.n M.cap, .int .i64 s.i, .int .i64 M.long, .bool s.head, .bool s.typ, .bool s.done]
def tkCells (E : Env) (w : World) (tb : Nat) : Prop := ∀ j, j < E.n → w.cell? ⟨tb, j * 3, none⟩ = some (.int .i64 (E.tok j).kind) ∧ w.cell? ⟨tb, j * 3 + 1, none⟩ = some (.string (E.tok j).str) ∧ w.cell? ⟨tb, j * 3 + 2, none⟩ = some (.int .i64 (E.tok j).at_)

/-- The reader's state in memory. -/
structure RdAt (E : Env) (M : Rm) (s : Rs) (w : World) : Prop where
  blk : w.heap[M.bp]? = some (.cells (rdCells E M s) 81 (0, 0))
  toks : tkCells E w M.tb
  le : s.i ≤ E.n

section
variable {E : Env} {M : Rm} {s : Rs} {w W : World}
theorem RdAt.lt (h : RdAt E M s w) : M.bp < w.heap.size := (Array.getElem?_eq_some_iff.1 h.blk).1
theorem RdAt.foot (h : RdAt E M s w) {B : Nat} {g : Nat → Prop} (hf : Foot B g w W) (hb : M.bp < B ∧ ¬ g M.bp) (ht : E.n = 0 ∨ M.tb < B ∧ ¬ g M.tb) : RdAt E M s W :=
  ⟨(hf.block _ hb.1 hb.2).trans h.blk, fun j hj => by
    rcases ht with ht | ht
    · omega
    · have := h.toks j hj
      have e : ∀ o, W.cell? ⟨M.tb, o, none⟩ = w.cell? ⟨M.tb, o, none⟩ := fun o => hf.cell (p := ⟨M.tb, o, none⟩) ht.1 ht.2
      rw [e, e, e]
      exact this, h.le⟩
theorem RdAt.tlt (h : RdAt E M s w) : E.n = 0 ∨ M.tb < w.heap.size := by
  rcases Nat.eq_zero_or_pos E.n with h0 | h0
  · exact .inl h0
  · exact .inr (World.block_lt_of_cell? w _ (h.toks 0 h0).1)
theorem RdAt.below (h : RdAt E M s w) (hb : Below w.heap.size w W) : RdAt E M s W :=
  h.foot (g := fun _ => False) (Foot.of hb) ⟨h.lt, id⟩ (h.tlt.imp id fun h => ⟨h, id⟩)
theorem RdAt.alloc (h : RdAt E M s w) (o : Obj) : RdAt E M s (w.alloc o) := h.below ((Below.refl _ _).alloc (Nat.le_refl _) _)
theorem RdAt.drew (h : RdAt E M s w) : RdAt E M s w.drew := h.below ((Below.refl _ _).drew)
/-- A store into the reader. -/
theorem RdAt.set (h : RdAt E M s w) (hE : EnvOk E M) (j : Nat) (v : Value) (s' : Rs) (he : (rdCells E M s).setIfInBounds j v = rdCells E M s') (_hj : j < 6) (hl : s'.i ≤ E.n) : RdAt E M s' (w.setCell ⟨M.bp, j, none⟩ v) := by
  refine ⟨?_, fun i hi => ?_, hl⟩
  · rw [← he]
    exact heap_setCell_same w M.bp j _ _ v h.blk
  · have := h.toks i hi
    have e : ∀ o, (w.setCell ⟨M.bp, j, none⟩ v).cell? ⟨M.tb, o, none⟩ = w.cell? ⟨M.tb, o, none⟩ := fun o => World.cell?_of_block (w := w) (Below.heap_setCell w _ _ _ hE.ne)
    rw [e, e, e]
    exact this
theorem RdAt.setI (h : RdAt E M s w) (hE : EnvOk E M) (k : Nat) (hl : k ≤ E.n) : RdAt E M { s with i := k } (w.setCell ⟨M.bp, 1, none⟩ (.int .i64 k)) := h.set hE 1 _ _ rfl (by decide) hl
theorem RdAt.setHead (h : RdAt E M s w) (hE : EnvOk E M) (b : Bool) : RdAt E M { s with head := b } (w.setCell ⟨M.bp, 3, none⟩ (.bool b)) := h.set hE 3 _ _ rfl (by decide) h.le
theorem RdAt.setTyp (h : RdAt E M s w) (hE : EnvOk E M) (b : Bool) : RdAt E M { s with typ := b } (w.setCell ⟨M.bp, 4, none⟩ (.bool b)) := h.set hE 4 _ _ rfl (by decide) h.le
theorem RdAt.setDone (h : RdAt E M s w) (hE : EnvOk E M) (b : Bool) : RdAt E M { s with done := b } (w.setCell ⟨M.bp, 5, none⟩ (.bool b)) := h.set hE 5 _ _ rfl (by decide) h.le
theorem RdAt.cell (h : RdAt E M s w) (j : Nat) : w.cell? ⟨M.bp, j, none⟩ = (rdCells E M s)[j]? := cell_of_row w M.bp j _ _ _ h.blk
theorem RdAt.c0 (h : RdAt E M s w) : w.cell? ⟨M.bp, 0, none⟩ = some (.slice M.A E.n M.cap) := h.cell 0
theorem RdAt.c1 (h : RdAt E M s w) : w.cell? ⟨M.bp, 1, none⟩ = some (.int .i64 s.i) := h.cell 1
theorem RdAt.c2 (h : RdAt E M s w) : w.cell? ⟨M.bp, 2, none⟩ = some (.int .i64 M.long) := h.cell 2
theorem RdAt.c3 (h : RdAt E M s w) : w.cell? ⟨M.bp, 3, none⟩ = some (.bool s.head) := h.cell 3
theorem RdAt.c4 (h : RdAt E M s w) : w.cell? ⟨M.bp, 4, none⟩ = some (.bool s.typ) := h.cell 4
theorem RdAt.c5 (h : RdAt E M s w) : w.cell? ⟨M.bp, 5, none⟩ = some (.bool s.done) := h.cell 5
theorem RdAt.fz (h : RdAt E M s w) (j : Nat) : w.frozen? ⟨M.bp, j, none⟩ = false := by simp [World.frozen?, h.blk]
end

/-- Every block that was there lies as it lay, but the reader's. -/
def Fp (bp : Nat) (w W : World) : Prop := Foot w.heap.size (fun k => k = bp) w W
theorem Fp.refl (bp : Nat) (w : World) : Fp bp w w := Foot.refl _ _ _
theorem Fp.trans {bp : Nat} {a b c : World} (h : Fp bp a b) (k : Fp bp b c) : Fp bp a c := Foot.trans h (Foot.mono k h.size fun _ _ h => h)
theorem Fp.of {bp : Nat} {a b : World} (h : Below a.heap.size a b) : Fp bp a b := Foot.of h
theorem Fp.alloc {bp : Nat} {a b : World} (h : Fp bp a b) (o : Obj) : Fp bp a (b.alloc o) := Foot.alloc h h.size o
theorem Fp.drew {bp : Nat} {a b : World} (h : Fp bp a b) : Fp bp a b.drew := h.trans (Fp.of ((Below.refl _ _).drew))
theorem Fp.set {bp : Nat} {a b : World} (h : Fp bp a b) (j : Nat) (v : Value) : Fp bp a (b.setCell ⟨bp, j, none⟩ v) := Foot.set h (p := ⟨bp, j, none⟩) (.inr rfl) v
theorem Fp.own {bp : Nat} {a b : World} (h : Fp bp a b) {g : Nat} (hg : a.heap.size ≤ g) (j : Nat) (v : Value) : Fp bp a (b.setCell ⟨g, j, none⟩ v) := Foot.set h (p := ⟨g, j, none⟩) (.inl hg) v
theorem Fp.block {bp : Nat} {a b : World} (h : Fp bp a b) {k : Nat} (hk : k < a.heap.size) (hne : k ≠ bp) : b.heap[k]? = a.heap[k]? := Foot.block h k hk hne
theorem LiesA.fp {bp : Nat} {w W : World} {C B : Nat} {t : Nd} {v : Value} (h : LiesA w C B t v) (hf : Fp bp w W) (hB : B ≤ w.heap.size) (hbp : bp < C) : LiesA W C B t v :=
  h.keep (fun b h1 h2 => hf.block (by omega) (by omega)) (Nat.le_refl _) (Nat.le_refl _)

/-- The panic by which a reader gives up. -/
def stuckP (t : Tk) : List PanicEntry := [{ v := .iface 111 (.agg #[.int .i64 t.kind, .string t.str, .int .i64 t.at_]), recovered := false }]

/-- What reading ends as, V: what is handed back is so. -/
def Post {α : Type} (E : Env) (M : Rm) (V : World → World → α → Value → Prop) (w : World) (r : Rr α) (e : Ending) (w' : World) : Prop :=
  match r with
  | .ok x s => (∃ v, e = .returned v ∧ V w w' x v) ∧ RdAt E M s w' ∧ Fp M.bp w w'
  | .bad i => e = .panicked (stuckP (E.tok i)) ∧ Fp M.bp w w'
  | .out => False
/-- A tree in memory of its own. -/
def VNd (w w' : World) (t : Nd) (v : Value) : Prop := LiesA w' w.heap.size w'.heap.size t v
theorem VNd.form {w w' : World} {k : Int} {s : ByteArray} {n a : Int} {ks : List Nd} {v : Value} (h : VNd w w' (.mk k s n a ks) v) : ∃ A cap, v = .agg #[.int .i64 k, .string s, .int .i64 n, .int .i64 a, .slice A ks.length cap] := by
  unfold VNd LiesA at h
  obtain ⟨A, cap, h, _⟩ := h
  exact ⟨A, cap, h⟩
theorem size_up {x : Nat} {w : World} (h : x ≤ w.heap.size) (o : Obj) : x ≤ (w.alloc o).heap.size := by simp; omega
def VTk (_ _ : World) (t : Tk) (v : Value) : Prop := v = .agg #[.int .i64 t.kind, .string t.str, .int .i64 t.at_]
end Go.Proofs.YtokhfhibdeneeaaGreatDoor

namespace Go.Proofs.YtokhfhibdeneeaaGreatDoor
open Go.RowKit

/-- recover, of a frame that panics. -/
theorem wpS_recover {y : Code} {Q : Exit → Act → List Frame → World → Prop} {a : Act} {c₀ : Frame} {cs : List Frame} {w : World} {v : Value} {o : Oper} (ho : o.op = .call { callee := .builtin .recover, args := #[], argTypes := #[] }) (hg : o.guard = none) (hu : c₀.mode = .panicking [{ v := v, recovered := false }]) {id : Nat} {a' : Act} (ha : a.put o.dst v = a')
    (h : y.wpS Tryz.prog Q a' ({ c₀ with mode := .panicking [{ v := v, recovered := true }] } :: cs) w) : (Code.seq (Code.region id #[o] false) y).wpS Tryz.prog Q a (c₀ :: cs) w := by
  refine wpS_seq (wpS_region ?_)
  obtain ⟨d, op, ty, ps, af, gd⟩ := o
  subst ha
  simp only at ho hg h
  subst ho hg
  simp [wpOpsS, go_sem, recoverD, hu, Exit.thenS]
  exact h
/-- recover, of a frame that returns. -/
theorem wpS_norecover {y : Code} {Q : Exit → Act → List Frame → World → Prop} {a : Act} {c₀ : Frame} {cs : List Frame} {w : World} {o : Oper} (ho : o.op = .call { callee := .builtin .recover, args := #[], argTypes := #[] }) (hg : o.guard = none) (hu : c₀.mode = .returning) {id : Nat} {a' : Act} (ha : a.put o.dst .nilIface = a')
    (h : y.wpS Tryz.prog Q a' (c₀ :: cs) w) : (Code.seq (Code.region id #[o] false) y).wpS Tryz.prog Q a (c₀ :: cs) w := by
  refine wpS_seq (wpS_region ?_)
  obtain ⟨d, op, ty, ps, af, gd⟩ := o
  subst ha
  simp only at ho hg h
  subst ho hg
  simp [wpOpsS, go_sem, recoverD, hu, Exit.thenS]
  exact h
/-- The world behind the catch: the result is nothing, the error a new Wrong. -/
def caughtW (rb eb : Nat) (t : Tk) (w : World) : World :=
  ((((((((w.setCell ⟨rb, 0, none⟩ (.int .i64 0)).setCell ⟨rb, 1, none⟩ (.string ⟨#[]⟩)).setCell ⟨rb, 2, none⟩ (.int .i64 0)).setCell ⟨rb, 3, none⟩ (.int .i64 0)).setCell ⟨rb, 4, none⟩ (.slice none 0 0)).setCell ⟨eb, 0, none⟩ (.iface 43 (.pointer (some ⟨w.heap.size + 1, 0, none⟩)))).alloc
    (.cells #[.int .i64 t.kind, .string t.str, .int .i64 t.at_] 111 (0, 0))).alloc (.cells #[.int .i64 30, .int .i64 t.at_, .string t.str] 32 (0, 0))).drew
set_option maxRecDepth 100000 in
set_option maxHeartbeats 1000000 in
theorem catch_stuck (rb eb : Nat) (t : Tk) (w : World) (hne : rb ≠ eb) {z0 z1 z2 z3 z4 z5 : Value} (hr : w.heap[rb]? = some (.cells #[z0, z1, z2, z3, z4] 25 (0, 0))) (he : w.heap[eb]? = some (.cells #[z5] 27 (0, 0))) :
    CallsD Tryz.prog 81 #[.pointer (some ⟨rb, 0, none⟩), .pointer (some ⟨eb, 0, none⟩)] (.panicking (stuckP t)) w fun e u' w' =>
      e = .returned (.tuple #[]) ∧ u' = .panicking [{ v := .iface 111 (.agg #[.int .i64 t.kind, .string t.str, .int .i64 t.at_]), recovered := true }] ∧ w' = caughtW rb eb t w := by
  refine callsD_of_wpS Tryz.func81 rfl fun c₀ cs hu => ?_
  have hrl : rb < w.heap.size := (Array.getElem?_eq_some_iff.1 hr).1
  have hel : eb < w.heap.size := (Array.getElem?_eq_some_iff.1 he).1
  have q0 := cell_of_row w rb 0 _ _ _ hr
  have q1 := cell_of_row w rb 1 _ _ _ hr
  have q2 := cell_of_row w rb 2 _ _ _ hr
  have q3 := cell_of_row w rb 3 _ _ _ hr
  have q4 := cell_of_row w rb 4 _ _ _ hr
  have q5 := cell_of_row w eb 0 _ _ _ he
  have f0 := fun i => frozen_of_row w rb i _ _ hr
  have f1 := fun i => frozen_of_row w eb i _ _ he
  simp at q0 q1 q2 q3 q4 q5
  refine wpS_recover (a' := ⟨#[.pointer (some ⟨rb, 0, none⟩), .pointer (some ⟨eb, 0, none⟩), undef, undef, undef, .iface 111 (.agg #[.int .i64 t.kind, .string t.str, .int .i64 t.at_]), undef, undef, undef, undef, undef, undef, undef, undef, undef, undef, undef, undef, undef, undef, undef], []⟩) rfl rfl hu (by kernel_rfl) ?_
  refine wpS_of_wp ?_
  have hta : ∀ (a b c : Value) (w : World), Sem.run Tryz.prog (Instr.typeAssert (.iface 111 (.agg #[a, b, c])) 20 111 true) w = .ok (.tuple #[.agg #[a, b, c], .bool true]) w := fun a b c w => rfl
  clear hr he
  go_wp2_with fail
  go_region
  exact ⟨rfl, _, rfl, _, results_none rfl _ _ _, rfl, rfl, rfl⟩
set_option maxRecDepth 100000 in
theorem catch_idle (rb eb : Nat) (w : World) :
    CallsD Tryz.prog 81 #[.pointer (some ⟨rb, 0, none⟩), .pointer (some ⟨eb, 0, none⟩)] .returning w fun e u' w' => e = .returned (.tuple #[]) ∧ u' = .returning ∧ w' = w := by
  refine callsD_of_wpS Tryz.func81 rfl fun c₀ cs hu => ?_
  refine wpS_norecover (a' := ⟨#[.pointer (some ⟨rb, 0, none⟩), .pointer (some ⟨eb, 0, none⟩), undef, undef, undef, .nilIface, undef, undef, undef, undef, undef, undef, undef, undef, undef, undef, undef, undef, undef, undef, undef], []⟩) rfl rfl hu (by kernel_rfl) ?_
  refine wpS_of_wp ?_
  go_wp2_with fail
  exact ⟨rfl, .returning, by rw [← hu], _, results_none rfl _ _ _, rfl, rfl, rfl⟩
end Go.Proofs.YtokhfhibdeneeaaGreatDoor

namespace Go.Proofs.YtokhfhibdeneeaaGreatDoor
open Go.RowKit

theorem bytes_eq (a b : ByteArray) : (a.toList == b.toList) = (a.data.toList == b.data.toList) := by rw [ByteArray.toList_eq, ByteArray.toList_eq]

theorem word_any (k : Int) (t : ByteArray) (a : Int) (s : ByteArray) (w : World) : Calls Tryz.prog 138 #[.agg #[.int .i64 k, .string t, .int .i64 a], .string s] w fun e w' => e = .returned (.bool (isW ⟨k, t.data.toList, a⟩ s.data.toList)) ∧ Below w.heap.size w w' := by
  obtain ⟨R, HR⟩ : ∃ R, Hid (isW ⟨k, t.data.toList, a⟩ s.data.toList = R) := ⟨_, rfl⟩
  rw [HR.out]
  go_enter Tryz.func138, Tryz.ntmps138
  go_wp2
  all_goals
    go_ret
    exact ⟨ret_bool (by rw [← HR.out]; unfold isW; simp only [bytes_eq]; simp [*]), (Below.refl _ _).alloc (Nat.le_refl _) _⟩

theorem named_any (k : Int) (t : ByteArray) (a : Int) (w : World) : Calls Tryz.prog 141 #[.agg #[.int .i64 k, .string t, .int .i64 a]] w fun e w' => e = .returned (.bool (namedB ⟨k, t.data.toList, a⟩)) ∧ Below w.heap.size w w' := by
  obtain ⟨R, HR⟩ : ∃ R, Hid (namedB ⟨k, t.data.toList, a⟩ = R) := ⟨_, rfl⟩
  rw [HR.out]
  go_enter Tryz.func141, Tryz.ntmps141
  go_wp2
  all_goals
    go_ret
    exact ⟨ret_bool (by rw [← HR.out]; unfold namedB; (try simp only); simp [*, ByteArray.toList_eq]), (Below.refl _ _).alloc (Nat.le_refl _) _⟩

/-- The end of a function whose result is a token, a node in a variable of its own. -/
theorem end_tok {fn : Func} {slot : Nat} (hr : fn.results = #[.cell slot 46]) {R : Ending → World → Prop} {tmps : Array Value} {W : World} {g : Nat} {v0 v1 v2 : Value} (ht : tmps.getD slot undef = .pointer (some ⟨g, 0, none⟩))
    (hg : ∃ t fz, W.heap[g]? = some (.cells #[v0, v1, v2] t fz)) (h : R (.returned (.agg #[v0, v1, v2])) W) : bodyPost Tryz.prog fn R .ret ⟨tmps, []⟩ W := by
  obtain ⟨t, fz, hg⟩ := hg
  have h0 : W.cell? ⟨g, 0, none⟩ = some v0 := cell_of_row W g 0 _ _ _ hg
  have h1 : W.cell? ⟨g, 1, none⟩ = some v1 := cell_of_row W g 1 _ _ _ hg
  have h2 : W.cell? ⟨g, 2, none⟩ = some v2 := cell_of_row W g 2 _ _ _ hg
  have ht' : tmps[slot]?.getD undef = .pointer (some ⟨g, 0, none⟩) := by simpa using ht
  exact bodyPost_ret (v := .agg #[v0, v1, v2]) (by simp [results, hr, go_sem, ht', h0, h1, h2]) rfl h
theorem end_node {fn : Func} {slot : Nat} (hr : fn.results = #[.cell slot 25]) {R : Ending → World → Prop} {tmps : Array Value} {W : World} {g : Nat} {v0 v1 v2 v3 v4 : Value} (ht : tmps.getD slot undef = .pointer (some ⟨g, 0, none⟩))
    (hg : ∃ t fz, W.heap[g]? = some (.cells #[v0, v1, v2, v3, v4] t fz)) (h : R (.returned (.agg #[v0, v1, v2, v3, v4])) W) : bodyPost Tryz.prog fn R .ret ⟨tmps, []⟩ W := by
  obtain ⟨t, fz, hg⟩ := hg
  have h0 : W.cell? ⟨g, 0, none⟩ = some v0 := cell_of_row W g 0 _ _ _ hg
  have h1 : W.cell? ⟨g, 1, none⟩ = some v1 := cell_of_row W g 1 _ _ _ hg
  have h2 : W.cell? ⟨g, 2, none⟩ = some v2 := cell_of_row W g 2 _ _ _ hg
  have h3 : W.cell? ⟨g, 3, none⟩ = some v3 := cell_of_row W g 3 _ _ _ hg
  have h4 : W.cell? ⟨g, 4, none⟩ = some v4 := cell_of_row W g 4 _ _ _ hg
  have ht' : tmps[slot]?.getD undef = .pointer (some ⟨g, 0, none⟩) := by simpa using ht
  exact bodyPost_ret (v := .agg #[v0, v1, v2, v3, v4]) (by simp [results, hr, go_sem, ht', h0, h1, h2, h3, h4]) rfl h

section
variable {E : Env} {M : Rm} {s : Rs} {w : World}
/-- at. -/
theorem at_any (hE : EnvOk E M) (h : RdAt E M s w) (k : Nat) (hk : k ≤ 1) : Calls Tryz.prog 42 #[.pointer (some ⟨M.bp, 0, none⟩), .int .i64 k] w fun e w' => e = .returned (.agg #[.int .i64 (E.tok (s.i + k)).kind, .string (E.tok (s.i + k)).str, .int .i64 (E.tok (s.i + k)).at_]) ∧ Below w.heap.size w w' := by
  have c0 := fun o => (h.alloc o).c0
  have c1 := fun o => (h.alloc o).c1
  have c2 := fun o => (h.alloc o).c2
  have hn := hE.n
  have hle := h.le
  have HB := Lib.hid ((Below.refl w.heap.size w).alloc (Nat.le_refl _) (.cells #[.int .i64 0, .string ⟨#[]⟩, .int .i64 0] 46))
  by_cases hlt : s.i + k < E.n
  · rcases hE.A with h0 | hA
    · omega
    rw [hA] at c0
    have t0 := fun o => ((h.alloc o).toks _ hlt).1
    have t1 := fun o => ((h.alloc o).toks _ hlt).2.1
    have t2 := fun o => ((h.alloc o).toks _ hlt).2.2
    have hcap := hE.cap
    clear hE h
    go_enter Tryz.func42, Tryz.ntmps42
    go_wp2
    go_region
    go_wp2
    go_region
    go_wp2
    exact end_tok rfl rfl ⟨_, _, heap_alloc_new w _⟩ ⟨rfl, (((Below.refl w.heap.size w).alloc (Nat.le_refl _) _).drew).drew⟩
  · have hp := hE.past (s.i + k) (by omega)
    rw [hp]
    clear hE h
    go_enter Tryz.func42, Tryz.ntmps42
    go_wp2
    go_region
    go_wp2
    exact end_tok rfl rfl ⟨_, _, heap_alloc_new w _⟩ ⟨rfl, ((Below.refl w.heap.size w).alloc (Nat.le_refl _) _).drew⟩
/-- fail. -/
theorem fail_any (hE : EnvOk E M) (h : RdAt E M s w) : Calls Tryz.prog 44 #[.pointer (some ⟨M.bp, 0, none⟩)] w fun e w' => e = .panicked (stuckP (E.tok s.i)) ∧ Below w.heap.size w w' := by
  have hat := at_any hE h 0 (by omega)
  go_enter Tryz.func44, Tryz.ntmps44
  go_wp2_with (go_at_call 42; refine hat.mono ?_; rintro e w1 ⟨rfl, hb⟩)
  exact ⟨rfl, rfl, hb⟩
/-- is, take. -/
theorem is_any (hE : EnvOk E M) (h : RdAt E M s w) (x : ByteArray) (l : List UInt8) (hx : x.data.toList = l) : Calls Tryz.prog 139 #[.pointer (some ⟨M.bp, 0, none⟩), .string x] w fun e w' => e = .returned (.bool (isT E s l)) ∧ Below w.heap.size w w' := by
  have hat := at_any hE h 0 (by omega)
  go_enter Tryz.func139, Tryz.ntmps139
  go_wp2_with (first
    | (go_at_call 42; refine hat.mono ?_; rintro e w1 ⟨rfl, hb⟩)
    | (go_at_call 138; refine (word_any _ _ _ _ _).mono ?_; rintro e w2 ⟨rfl, hb2⟩))
  go_ret
  subst hx
  exact ⟨rfl, hb.trans (hb2.mono hb.size)⟩
end
end Go.Proofs.YtokhfhibdeneeaaGreatDoor

namespace Go.Proofs.YtokhfhibdeneeaaGreatDoor
open Go.RowKit

/-- A block of a walk's own: where, what it holds, its cells' type. -/
abbrev Rw := Nat × Array Value × TypeId
/-- A variable whose list grows: its block; what stands in it: the list's value; the trees in the list, with their values. -/
structure Gv where
  nb : Nat
  k : Int
  s : ByteArray
  n : Int
  a : Int
  v : Value
  xs : List (Nd × Value)
def Gv.nd (g : Gv) : Nd := .mk g.k g.s g.n g.a (g.xs.map (·.1))

/-- The blocks that trees of a walk's own may lie in. -/
def Mine (w0 W : World) (rows : List Rw) (gs : Option Gv) (b : Nat) : Prop :=
  w0.heap.size ≤ b ∧ b < W.heap.size ∧ (∀ r ∈ rows, r.1 ≠ b) ∧ ∀ g, gs = some g → g.nb ≠ b ∧ g.v.ownBlock ≠ some b

/-- The growing variable in memory. -/
structure GrowAt (W : World) (lo : Nat) (P : Nat → Prop) (g : Gv) : Prop where
  box : W.heap[g.nb]? = some (.cells #[.int .i64 g.k, .string g.s, .int .i64 g.n, .int .i64 g.a, g.v] 25 (0, 0))
  own : W.ownsRow lo 25 5 g.v g.xs.length (treeCells g.xs)
  tr : ∀ x ∈ g.xs, LiesP W P x.1 x.2
  ok : okI g.k ∧ okI g.n ∧ okI g.a ∧ g.s.size ≤ 140737488351232

/-- What lies there besides the reader, since the world w0: the blocks of the walk's own, with what they hold; a growing variable; the trees that were read. -/
structure Bx (M : Rm) (w0 : World) (rows : List Rw) (gs : Option Gv) (ts : List (Nd × Value)) (W : World) : Prop where
  fp : Fp M.bp w0 W
  bp : M.bp < w0.heap.size
  rw : ∀ r ∈ rows, w0.heap.size ≤ r.1 ∧ W.heap[r.1]? = some (.cells r.2.1 r.2.2 (0, 0))
  nd : rows.Pairwise fun a b => a.1 ≠ b.1
  gw : ∀ g, gs = some g → w0.heap.size ≤ g.nb ∧ (∀ r ∈ rows, r.1 ≠ g.nb ∧ g.v.ownBlock ≠ some r.1) ∧ g.v.ownBlock ≠ some g.nb ∧ GrowAt W w0.heap.size (Mine w0 W rows gs) g
  tr : ∀ x ∈ ts, LiesP W (Mine w0 W rows gs) x.1 x.2

section
variable {E : Env} {M : Rm} {w0 W W' : World} {rows : List Rw} {gs : Option Gv} {ts : List (Nd × Value)} {s s' : Rs}
theorem GrowAt.lt {lo : Nat} {P : Nat → Prop} {g : Gv} (h : GrowAt W lo P g) : g.nb < W.heap.size ∧ ∀ b, g.v.ownBlock = some b → lo ≤ b ∧ b < W.heap.size :=
  ⟨(Array.getElem?_eq_some_iff.1 h.box).1, fun b hb => h.own.lt b hb⟩
theorem GrowAt.keep {lo : Nat} {P P' : Nat → Prop} {g : Gv} {row : Option Nat} (h : GrowAt W lo P g) (hg : W.grownBy W' row) (h1 : row ≠ some g.nb) (h2 : ∀ b, g.v.ownBlock = some b → row ≠ some b) (hk : ∀ b, P b → W'.heap[b]? = W.heap[b]?) (hP : ∀ b, P b → P' b) : GrowAt W' lo P' g := by
  have hlt := h.lt
  exact ⟨(hg.block _ hlt.1 (fun e => h1 e.symm)).trans h.box, h.own.kept hg (by
      cases hgb : g.v.ownBlock with
      | none => exact .inl rfl
      | some b => exact .inr fun e => h2 b hgb e.symm), fun x hx => (h.tr x hx).keep hk hP, h.ok⟩
theorem Fp.grownBy {bp : Nat} (h : Fp bp W W') : W.grownBy W' (some bp) := ⟨Foot.os h, Foot.tape h, Foot.output h, Foot.size h, fun k hk hne => h.block hk (fun e => hne (by rw [e]))⟩
theorem Bx.size (h : Bx M w0 rows gs ts W) : w0.heap.size ≤ W.heap.size := Foot.size h.fp
theorem Bx.start (hbp : M.bp < W.heap.size) : Bx M W [] none [] W := ⟨Fp.refl _ _, hbp, fun r hr => by simp at hr, .nil, fun g hg => by simp at hg, fun r hr => by simp at hr⟩
/-- A step that turns nothing of the walk's own. -/
theorem Bx.go (h : Bx M w0 rows gs ts W) (hf : Fp M.bp W W') : Bx M w0 rows gs ts W' := by
  have hm : ∀ b, Mine w0 W rows gs b → Mine w0 W' rows gs b := fun b hb => ⟨hb.1, Nat.lt_of_lt_of_le hb.2.1 (Foot.size hf), hb.2.2⟩
  have hk : ∀ b, Mine w0 W rows gs b → W'.heap[b]? = W.heap[b]? := fun b hb => hf.block hb.2.1 (by have := h.bp; have := hb.1; omega)
  refine ⟨h.fp.trans hf, h.bp, fun r hr => ⟨(h.rw r hr).1, (hf.block (Array.getElem?_eq_some_iff.1 (h.rw r hr).2).1 (by have := (h.rw r hr).1; have := h.bp; omega)).trans (h.rw r hr).2⟩, h.nd, fun g hg => ?_, fun x hx => (h.tr x hx).keep hk hm⟩
  obtain ⟨h1, h2, h3, h4⟩ := h.gw g hg
  exact ⟨h1, h2, h3, h4.keep hf.grownBy (fun e => by simp at e; have := h.bp; omega) (fun b hb e => by simp at e; have := h.bp; have := (h4.lt.2 b hb).1; omega) hk hm⟩
theorem Bx.below (h : Bx M w0 rows gs ts W) (hb : Below W.heap.size W W') : Bx M w0 rows gs ts W' := h.go (Fp.of hb)
theorem Bx.alloc (h : Bx M w0 rows gs ts W) (o : Obj) : Bx M w0 rows gs ts (W.alloc o) := h.below ((Below.refl _ _).alloc (Nat.le_refl _) _)
theorem Bx.drew (h : Bx M w0 rows gs ts W) : Bx M w0 rows gs ts W.drew := h.below ((Below.refl _ _).drew)
/-- A new block of the walk's own. -/
theorem Bx.push (h : Bx M w0 rows gs ts W) (cs : Array Value) (t : TypeId) : Bx M w0 ((W.heap.size, cs, t) :: rows) gs ts (W.alloc (.cells cs t (0, 0))) := by
  have hk := h.alloc (.cells cs t (0, 0))
  have hm : ∀ b, b < W.heap.size → Mine w0 (W.alloc (.cells cs t (0, 0))) rows gs b → Mine w0 (W.alloc (.cells cs t (0, 0))) ((W.heap.size, cs, t) :: rows) gs b := fun b hlt hb => ⟨hb.1, hb.2.1, fun r hr => by
    rcases List.mem_cons.1 hr with rfl | hr
    · simp only; omega
    · exact hb.2.2.1 r hr, hb.2.2.2⟩
  have hm' : ∀ b, Mine w0 W rows gs b → Mine w0 (W.alloc (.cells cs t (0, 0))) ((W.heap.size, cs, t) :: rows) gs b := fun b hb => hm b hb.2.1 ⟨hb.1, by have := hb.2.1; simp; omega, hb.2.2⟩
  have hkp : ∀ b, Mine w0 W rows gs b → (W.alloc (.cells cs t (0, 0))).heap[b]? = W.heap[b]? := fun b hb => Below.heap_alloc W _ b hb.2.1
  refine ⟨hk.fp, hk.bp, fun r hr => ?_, List.pairwise_cons.2 ⟨fun r hr => ?_, h.nd⟩, fun g hg => ?_, fun x hx => (h.tr x hx).keep hkp hm'⟩
  · rcases List.mem_cons.1 hr with rfl | hr
    · exact ⟨h.size, heap_alloc_new _ _⟩
    · exact hk.rw r hr
  · have := (Array.getElem?_eq_some_iff.1 (h.rw r hr).2).1
    simp only
    omega
  · obtain ⟨h1, h2, h3, h4⟩ := h.gw g hg
    have hl := h4.lt
    refine ⟨h1, fun r hr => ?_, h3, h4.keep (row := none) ⟨rfl, rfl, rfl, by simp, fun k hk _ => Below.heap_alloc W _ k hk⟩ (by simp) (by simp) hkp hm'⟩
    rcases List.mem_cons.1 hr with rfl | hr
    · exact ⟨by simp only; omega, fun e => by have := (hl.2 _ e).2; simp only at this; omega⟩
    · exact h2 r hr
theorem Bx.tree (h : Bx M w0 rows gs ts W) {t : Nd} {v : Value} (hl : LiesP W (Mine w0 W rows gs) t v) : Bx M w0 rows gs ((t, v) :: ts) W :=
  ⟨h.fp, h.bp, h.rw, h.nd, h.gw, fun x hx => by
    rcases List.mem_cons.1 hx with rfl | hx
    · exact hl
    · exact h.tr x hx⟩
theorem Bx.sub (h : Bx M w0 rows gs ts W) {ts' : List (Nd × Value)} (hs : ∀ x ∈ ts', x ∈ ts) : Bx M w0 rows gs ts' W := ⟨h.fp, h.bp, h.rw, h.nd, h.gw, fun x hx => h.tr x (hs x hx)⟩
/-- A tree that a call hands back. -/
theorem Bx.read (h : Bx M w0 rows gs ts W) {t : Nd} {v : Value} (hf : Fp M.bp W W') (hv : VNd W W' t v) : Bx M w0 rows gs ((t, v) :: ts) W' :=
  (h.go hf).tree (LiesA.toP (fun b h1 h2 => ⟨Nat.le_trans h.size h1, h2, fun r hr e => by
      have := (Array.getElem?_eq_some_iff.1 (h.rw r hr).2).1
      omega, fun g hg => by
      have hl := (h.gw g hg).2.2.2.lt
      exact ⟨by omega, fun e => by have := (hl.2 b e).2; omega⟩⟩) hv)
/-- A block that is written no more: trees may lie in it. -/
theorem Bx.retire {r : Rw} (h : Bx M w0 (r :: rows) gs ts W) : Bx M w0 rows gs ts W := by
  have hm : ∀ b, Mine w0 W (r :: rows) gs b → Mine w0 W rows gs b := fun b hb => ⟨hb.1, hb.2.1, fun r hr => hb.2.2.1 r (List.mem_cons_of_mem _ hr), hb.2.2.2⟩
  refine ⟨h.fp, h.bp, fun r hr => h.rw r (List.mem_cons_of_mem _ hr), (List.pairwise_cons.1 h.nd).2, fun g hg => ?_, fun x hx => (h.tr x hx).keep (fun _ _ => rfl) hm⟩
  obtain ⟨h1, h2, h3, h4⟩ := h.gw g hg
  exact ⟨h1, fun r hr => h2 r (List.mem_cons_of_mem _ hr), h3, h4.box, h4.own, fun x hx => (h4.tr x hx).keep (fun _ _ => rfl) hm, h4.ok⟩
/-- A node over trees whose cells were laid in the newest block. -/
theorem Bx.node {g : Nat} {cs : Array Value} {T : TypeId} (h : Bx M w0 ((g, cs, T) :: rows) gs ts W) (xs : List (Nd × Value)) (hcs : ∀ (j : Nat) u, (treeCells xs)[j]? = some u → cs[j]? = some u) (hx : ∀ x ∈ xs, x ∈ ts)
    {k : Int} {sx : ByteArray} {n a : Int} (hk : okI k) (hn : okI n) (ha : okI a) (hs : sx.size ≤ 140737488351232) {l cap : Nat} (hl : l = xs.length) (hc : l ≤ cap) (hc2 : cap ≤ 9223372036854775807) :
    Bx M w0 rows gs ((.mk k sx n a (xs.map (·.1)), .agg #[.int .i64 k, .string sx, .int .i64 n, .int .i64 a, .slice (some ⟨g, 0, none⟩) l cap]) :: ts) W := by
  have hr := h.retire
  refine hr.tree (LiesP.node (h.rw _ (List.mem_cons_self ..)).2 xs hcs (fun x hxx => hr.tr x (hx x hxx)) ⟨(h.rw _ (List.mem_cons_self ..)).1, (Array.getElem?_eq_some_iff.1 (h.rw _ (List.mem_cons_self ..)).2).1, fun r hr => ?_, fun gw hg => ?_⟩ hk hn ha hs hl hc hc2)
  · exact fun e => (List.pairwise_cons.1 h.nd).1 r hr e.symm
  · have := (h.gw gw hg).2.1 _ (List.mem_cons_self ..)
    exact ⟨fun e => this.1 e.symm, this.2⟩
theorem Bx.at_ (h : Bx M w0 rows gs ts W) {g : Nat} {cs : Array Value} {t : TypeId} (hm : (g, cs, t) ∈ rows) (j : Nat) {v : Value} (hv : cs[j]? = some v) : W.cell? ⟨g, j, none⟩ = some v := (cell_of_row W g j _ _ _ (h.rw _ hm).2).trans hv
theorem Bx.fz (h : Bx M w0 rows gs ts W) {g : Nat} {cs : Array Value} {t : TypeId} (hm : (g, cs, t) ∈ rows) (j : Nat) : W.frozen? ⟨g, j, none⟩ = false := by
  have := (h.rw _ hm).2
  simp only at this
  simp [World.frozen?, this]
/-- A store into the newest block of the walk's own. -/
theorem Bx.setRow {g : Nat} {cs : Array Value} {t : TypeId} (h : Bx M w0 ((g, cs, t) :: rows) gs ts W) (j : Nat) (v : Value) : Bx M w0 ((g, cs.setIfInBounds j v, t) :: rows) gs ts (W.setCell ⟨g, j, none⟩ v) := by
  have hg0 := h.rw _ (List.mem_cons_self ..)
  have hne : ∀ b, b ≠ g → (W.setCell ⟨g, j, none⟩ v).heap[b]? = W.heap[b]? := fun b hb => Below.heap_setCell W _ _ _ hb
  have hm : ∀ b, Mine w0 W ((g, cs, t) :: rows) gs b → Mine w0 (W.setCell ⟨g, j, none⟩ v) ((g, cs.setIfInBounds j v, t) :: rows) gs b := fun b hb => ⟨hb.1, by simpa using hb.2.1, fun r hr => by
    rcases List.mem_cons.1 hr with rfl | hr
    · exact hb.2.2.1 (g, cs, t) (List.mem_cons_self ..)
    · exact hb.2.2.1 r (List.mem_cons_of_mem _ hr), hb.2.2.2⟩
  have hk : ∀ b, Mine w0 W ((g, cs, t) :: rows) gs b → (W.setCell ⟨g, j, none⟩ v).heap[b]? = W.heap[b]? := fun b hb => hne b (fun e => hb.2.2.1 _ (List.mem_cons_self ..) e.symm)
  refine ⟨h.fp.own hg0.1 j v, h.bp, fun r hr => ?_, List.pairwise_cons.2 ⟨(List.pairwise_cons.1 h.nd).1, (List.pairwise_cons.1 h.nd).2⟩, fun gw hg => ?_, fun x hx => (h.tr x hx).keep hk hm⟩
  · rcases List.mem_cons.1 hr with rfl | hr
    · exact ⟨hg0.1, heap_setCell_same W g j _ _ v hg0.2⟩
    · exact ⟨(h.rw r (List.mem_cons_of_mem _ hr)).1, (hne _ (fun e => (List.pairwise_cons.1 h.nd).1 r hr e.symm)).trans (h.rw r (List.mem_cons_of_mem _ hr)).2⟩
  · obtain ⟨h1, h2, h3, h4⟩ := h.gw gw hg
    refine ⟨h1, fun r hr => ?_, h3, h4.keep (row := some g) ⟨rfl, rfl, rfl, by simp, fun k _ hne' => hne k (fun e => hne' (by rw [e]))⟩ (fun e => ?_) (fun b hb e => ?_) hk hm⟩
    · rcases List.mem_cons.1 hr with rfl | hr
      · exact h2 (g, cs, t) (List.mem_cons_self ..)
      · exact h2 r (List.mem_cons_of_mem _ hr)
    · have := (h2 _ (List.mem_cons_self ..)).1
      simp only [Option.some.injEq] at e
      exact this e
    · have := (h2 _ (List.mem_cons_self ..)).2
      exact this (by rw [hb, e])
/-- The newest two blocks change places. -/
theorem Bx.swap {r r' : Rw} (h : Bx M w0 (r :: r' :: rows) gs ts W) : Bx M w0 (r' :: r :: rows) gs ts W := by
  have hmem : ∀ x, x ∈ r' :: r :: rows ↔ x ∈ r :: r' :: rows := fun x => by simp only [List.mem_cons]; constructor <;> (rintro (h | h | h) <;> simp [h])
  have hm : ∀ b, Mine w0 W (r :: r' :: rows) gs b → Mine w0 W (r' :: r :: rows) gs b := fun b hb => ⟨hb.1, hb.2.1, fun x hx => hb.2.2.1 x ((hmem x).1 hx), hb.2.2.2⟩
  obtain ⟨n1, n2⟩ := List.pairwise_cons.1 h.nd
  obtain ⟨n3, n4⟩ := List.pairwise_cons.1 n2
  refine ⟨h.fp, h.bp, fun x hx => h.rw x ((hmem x).1 hx), List.pairwise_cons.2 ⟨fun x hx => ?_, List.pairwise_cons.2 ⟨fun x hx => n1 x (List.mem_cons_of_mem _ hx), n4⟩⟩, fun g hg => ?_, fun x hx => (h.tr x hx).keep (fun _ _ => rfl) hm⟩
  · rcases List.mem_cons.1 hx with rfl | hx
    · exact fun e => n1 r' (List.mem_cons_self ..) e.symm
    · exact n3 x hx
  · obtain ⟨h1, h2, h3, h4⟩ := h.gw g hg
    exact ⟨h1, fun x hx => h2 x ((hmem x).1 hx), h3, h4.box, h4.own, fun x hx => (h4.tr x hx).keep (fun _ _ => rfl) hm, h4.ok⟩

/-- What stands at a place of a walk: the reader's state, and what lies there besides. -/
structure St (E : Env) (M : Rm) (w0 : World) (rows : List Rw) (gs : Option Gv) (ts : List (Nd × Value)) (s : Rs) (W : World) : Prop where
  rd : RdAt E M s W
  bx : Bx M w0 rows gs ts W
  tb : E.n = 0 ∨ M.tb < w0.heap.size
theorem St.init (h : RdAt E M s W) : St E M W [] none [] s W := ⟨h, Bx.start h.lt, h.tlt⟩
theorem St.go (h : St E M w0 rows gs ts s W) (hr : RdAt E M s' W') (hf : Fp M.bp W W') : St E M w0 rows gs ts s' W' := ⟨hr, h.bx.go hf, h.tb⟩
theorem St.below (h : St E M w0 rows gs ts s W) (hb : Below W.heap.size W W') : St E M w0 rows gs ts s W' := ⟨h.rd.below hb, h.bx.below hb, h.tb⟩
theorem St.alloc (h : St E M w0 rows gs ts s W) (o : Obj) : St E M w0 rows gs ts s (W.alloc o) := ⟨h.rd.alloc o, h.bx.alloc o, h.tb⟩
theorem St.drew (h : St E M w0 rows gs ts s W) : St E M w0 rows gs ts s W.drew := ⟨h.rd.drew, h.bx.drew, h.tb⟩
theorem St.push (h : St E M w0 rows gs ts s W) (cs : Array Value) (t : TypeId) : St E M w0 ((W.heap.size, cs, t) :: rows) gs ts s (W.alloc (.cells cs t (0, 0))) := ⟨h.rd.alloc _, h.bx.push cs t, h.tb⟩
theorem St.read (h : St E M w0 rows gs ts s W) {t : Nd} {v : Value} (hr : RdAt E M s' W') (hf : Fp M.bp W W') (hv : VNd W W' t v) : St E M w0 rows gs ((t, v) :: ts) s' W' := ⟨hr, h.bx.read hf hv, h.tb⟩
theorem St.set (h : St E M w0 rows gs ts s W) (j : Nat) (v : Value) (hr : RdAt E M s' (W.setCell ⟨M.bp, j, none⟩ v)) : St E M w0 rows gs ts s' (W.setCell ⟨M.bp, j, none⟩ v) := h.go hr ((Fp.refl _ _).set j v)
theorem St.setI (h : St E M w0 rows gs ts s W) (hE : EnvOk E M) (k : Nat) (hk : k ≤ E.n) : St E M w0 rows gs ts { s with i := k } (W.setCell ⟨M.bp, 1, none⟩ (.int .i64 k)) := h.set 1 _ (h.rd.setI hE k hk)
theorem St.adv1 (h : St E M w0 rows gs ts s W) (hE : EnvOk E M) (hk : s.i + 1 ≤ E.n) : St E M w0 rows gs ts (adv s 1) (W.setCell ⟨M.bp, 1, none⟩ (.int .i64 ((s.i : Int) + 1))) := h.setI hE (s.i + 1) hk
theorem St.adv2 (h : St E M w0 rows gs ts s W) (hE : EnvOk E M) (hk : s.i + 2 ≤ E.n) : St E M w0 rows gs ts (adv s 2) (W.setCell ⟨M.bp, 1, none⟩ (.int .i64 ((s.i : Int) + 2))) := h.setI hE (s.i + 2) hk
theorem St.setHead (h : St E M w0 rows gs ts s W) (hE : EnvOk E M) (b : Bool) : St E M w0 rows gs ts { s with head := b } (W.setCell ⟨M.bp, 3, none⟩ (.bool b)) := h.set 3 _ (h.rd.setHead hE b)
theorem St.setTyp (h : St E M w0 rows gs ts s W) (hE : EnvOk E M) (b : Bool) : St E M w0 rows gs ts { s with typ := b } (W.setCell ⟨M.bp, 4, none⟩ (.bool b)) := h.set 4 _ (h.rd.setTyp hE b)
theorem St.setDone (h : St E M w0 rows gs ts s W) (hE : EnvOk E M) (b : Bool) : St E M w0 rows gs ts { s with done := b } (W.setCell ⟨M.bp, 5, none⟩ (.bool b)) := h.set 5 _ (h.rd.setDone hE b)
theorem St.setRow {g : Nat} {cs : Array Value} {t : TypeId} (h : St E M w0 ((g, cs, t) :: rows) gs ts s W) (j : Nat) (v : Value) : St E M w0 ((g, cs.setIfInBounds j v, t) :: rows) gs ts s (W.setCell ⟨g, j, none⟩ v) := by
  have hg0 := h.bx.rw _ (List.mem_cons_self ..)
  have hne : ∀ b, b < w0.heap.size → (W.setCell ⟨g, j, none⟩ v).heap[b]? = W.heap[b]? := fun b hb => Below.heap_setCell W _ _ _ (by have := hg0.1; simp only at this ⊢; omega)
  exact ⟨⟨(hne _ h.bx.bp).trans h.rd.blk, fun i hi => by
    have hlt : M.tb < w0.heap.size := by
      rcases h.tb with h0 | h0
      · omega
      · exact h0
    have e : ∀ o, (W.setCell ⟨g, j, none⟩ v).cell? ⟨M.tb, o, none⟩ = W.cell? ⟨M.tb, o, none⟩ := fun o => World.cell?_of_block (w := W) (hne _ hlt)
    rw [e, e, e]
    exact h.rd.toks i hi, h.rd.le⟩, h.bx.setRow j v, h.tb⟩

theorem St.swap {r r' : Rw} (h : St E M w0 (r :: r' :: rows) gs ts s W) : St E M w0 (r' :: r :: rows) gs ts s W := ⟨h.rd, h.bx.swap, h.tb⟩
/-- The third newest block to the front. -/
theorem St.swap3 {r r' r'' : Rw} (h : St E M w0 (r :: r' :: r'' :: rows) gs ts s W) : St E M w0 (r'' :: r :: r' :: rows) gs ts s W := by
  have hmem : ∀ x, x ∈ r'' :: r :: r' :: rows ↔ x ∈ r :: r' :: r'' :: rows := fun x => by simp only [List.mem_cons]; constructor <;> (rintro (h | h | h | h) <;> simp [h])
  have hm : ∀ b, Mine w0 W (r :: r' :: r'' :: rows) gs b → Mine w0 W (r'' :: r :: r' :: rows) gs b := fun b hb => ⟨hb.1, hb.2.1, fun x hx => hb.2.2.1 x ((hmem x).1 hx), hb.2.2.2⟩
  obtain ⟨n1, n2⟩ := List.pairwise_cons.1 h.bx.nd
  obtain ⟨n3, n4⟩ := List.pairwise_cons.1 n2
  obtain ⟨n5, n6⟩ := List.pairwise_cons.1 n4
  have e1 : r''.1 ≠ r.1 := fun e => n1 r'' (List.mem_cons_of_mem _ (List.mem_cons_self ..)) e.symm
  have e2 : r''.1 ≠ r'.1 := fun e => n3 r'' (List.mem_cons_self ..) e.symm
  have e3 : r.1 ≠ r'.1 := n1 r' (List.mem_cons_self ..)
  refine ⟨h.rd, ⟨h.bx.fp, h.bx.bp, fun x hx => h.bx.rw x ((hmem x).1 hx), ?_, fun g hg => ?_, fun x hx => (h.bx.tr x hx).keep (fun _ _ => rfl) hm⟩, h.tb⟩
  · refine List.pairwise_cons.2 ⟨fun x hx => ?_, List.pairwise_cons.2 ⟨fun x hx => ?_, List.pairwise_cons.2 ⟨fun x hx => n3 x (List.mem_cons_of_mem _ hx), n6⟩⟩⟩
    · rcases List.mem_cons.1 hx with rfl | hx
      · exact e1
      · rcases List.mem_cons.1 hx with rfl | hx
        · exact e2
        · exact n5 x hx
    · rcases List.mem_cons.1 hx with rfl | hx
      · exact e3
      · exact n1 x (List.mem_cons_of_mem _ (List.mem_cons_of_mem _ hx))
  · obtain ⟨h1, h2, h3, h4⟩ := h.bx.gw g hg
    exact ⟨h1, fun x hx => h2 x ((hmem x).1 hx), h3, h4.box, h4.own, fun x hx => (h4.tr x hx).keep (fun _ _ => rfl) hm, h4.ok⟩
theorem St.retire {r : Rw} (h : St E M w0 (r :: rows) gs ts s W) : St E M w0 rows gs ts s W := ⟨h.rd, h.bx.retire, h.tb⟩
theorem St.tree (h : St E M w0 rows gs ts s W) {t : Nd} {v : Value} (hl : LiesP W (Mine w0 W rows gs) t v) : St E M w0 rows gs ((t, v) :: ts) s W := ⟨h.rd, h.bx.tree hl, h.tb⟩
theorem St.fp (h : St E M w0 rows gs ts s W) : Fp M.bp w0 W := h.bx.fp
theorem St.lo (h : St E M w0 rows gs ts s W) : w0.heap.size ≤ W.heap.size := h.bx.size
/-- What is handed back at the end. -/
theorem St.nd (h : St E M w0 rows gs ts s W) {t : Nd} {v : Value} (hl : LiesP W (Mine w0 W rows gs) t v) : Post E M VNd w0 (.ok t s) (.returned v) W :=
  ⟨⟨_, rfl, hl.toA fun _b hb => ⟨hb.1, hb.2.1⟩⟩, h.rd, h.fp⟩

theorem bad_end {α : Type} {V : World → World → α → Value → Prop} {R : Rr α} {i : Nat} (hi : R = .bad i) (hf : Fp M.bp w0 W) : Post E M V w0 R (.panicked (stuckP (E.tok i))) W := by
  subst hi
  exact ⟨rfl, hf⟩
/-- A call of a reading method, by its contract: it gives up, and so does the caller; or it hands something back. -/
theorem Post.use {α β : Type} {V : World → World → α → Value → Prop} {Q : Ending → World → Prop} {r : Rr α} {k : α → Rs → Rr β} {R : Rr β} {f : FuncId} {args : Array Value} (hR : r.bind k = R) (hne : R ≠ .out) (hc : r ≠ .out → Calls Tryz.prog f args W (Post E M V W r))
    (hbad : ∀ i W', R = .bad i → Fp M.bp W W' → Q (.panicked (stuckP (E.tok i))) W')
    (hok : ∀ x s v W', k x s = R → V W W' x v → RdAt E M s W' → Fp M.bp W W' → Q (.returned v) W') : Calls Tryz.prog f args W Q := by
  have h0 : r ≠ .out := fun e => hne (by rw [← hR, e]; rfl)
  refine (hc h0).mono fun e W' h => ?_
  cases r with
  | ok x s =>
    obtain ⟨⟨v, rfl, hv⟩, hr, hf⟩ := h
    exact hok x s v W' hR hv hr hf
  | bad i =>
    obtain ⟨rfl, hf⟩ := h
    exact hbad i W' hR.symm hf
  | out => exact absurd rfl h0

/-- take. -/
theorem take_any (hE : EnvOk E M) (h : RdAt E M s W) (x : ByteArray) (l : List UInt8) (hx : x.data.toList = l) : Calls Tryz.prog 86 #[.pointer (some ⟨M.bp, 0, none⟩), .string x] W fun e W' => e = .returned (.bool (isT E s l)) ∧ RdAt E M (takeS E l s) W' ∧ Fp M.bp W W' := by
  have his := is_any hE h x l hx
  obtain ⟨b, HB⟩ : ∃ b, Hid (isT E s l = b) := ⟨_, rfl⟩
  have hts : takeS E l s = if b then adv s 1 else s := by rw [takeS, HB.out]
  rw [hts]
  rw [HB.out] at his ⊢
  have hn := hE.n
  have hle := h.le
  have hlt : b = true → s.i < E.n := fun e => isT_lt hE.ok (HB.out.trans e)
  clear hts
  cases b with
  | false =>
    simp only [Bool.false_eq_true, if_false]
    clear hlt
    go_enter Tryz.func86, Tryz.ntmps86
    go_wp2_with (go_at_call 139; refine his.mono ?_; rintro e w1 ⟨rfl, hb⟩)
    go_ret
    exact ⟨rfl, h.below hb, Fp.of hb⟩
  | true =>
    have hlt := hlt rfl
    simp only [if_true]
    go_enter Tryz.func86, Tryz.ntmps86
    go_wp2_with (go_at_call 139; refine his.mono ?_; rintro e w1 ⟨rfl, hb⟩; have h1 := h.below hb; have c1 := h1.c1; have f1 := h1.fz 1)
    go_ret
    exact ⟨rfl, h1.setI hE (s.i + 1) (by omega), (Fp.of hb).set 1 _⟩

end
end Go.Proofs.YtokhfhibdeneeaaGreatDoor

namespace Go.Proofs.YtokhfhibdeneeaaGreatDoor
open Go.RowKit
section
variable {E : Env} {M : Rm} {w0 W W' : World} {rows : List Rw} {gs : Option Gv} {ts : List (Nd × Value)} {s s' : Rs}
/-- want. -/
theorem want_any (hE : EnvOk E M) (h : RdAt E M s W) (x : ByteArray) (l : List UInt8) (hx : x.data.toList = l) : Calls Tryz.prog 90 #[.pointer (some ⟨M.bp, 0, none⟩), .string x] W (Post E M VTk W (wantR E l s)) := by
  have HS := Lib.hid ((St.init h).push #[.int .i64 0, .string ⟨#[]⟩, .int .i64 0] 46)
  have hwr : wantR E l s = if isT E s l then .ok (cur E s) (adv s 1) else .bad s.i := rfl
  have htk : takeS E l s = if isT E s l then adv s 1 else s := rfl
  rw [hwr]
  have htake := fun W' (h' : RdAt E M s W') => take_any hE h' x l hx
  rw [htk] at htake
  cases HB : isT E s l with
  | false =>
    simp only [HB, Bool.false_eq_true, if_false] at htake ⊢
    clear hwr h htk
    go_enter Tryz.func90, Tryz.ntmps90
    go_wp2_with (first
      | (go_at_call 42; refine (at_any hE HS.out.rd 0 (by omega)).mono ?_; rintro e w1 ⟨rfl, hb⟩; have HS1 := Lib.hid ((HS.out.below hb).push #[.int .i64 (E.tok (s.i + 0)).kind, .string (E.tok (s.i + 0)).str, .int .i64 (E.tok (s.i + 0)).at_] 46); clear hb)
      | (go_at_call 86; refine (htake _ HS1.out.rd).mono ?_; rintro e w2 ⟨rfl, hr, hf⟩; have HS2 := Lib.hid (HS1.out.go hr hf); clear hr hf)
      | (go_at_call 44; refine (fail_any hE HS2.out.rd).mono ?_; rintro e w3 ⟨rfl, hb⟩))
    exact ⟨rfl, rfl, (HS2.out.below hb).bx.fp⟩
  | true =>
    simp only [HB, if_true] at htake ⊢
    clear hwr h htk
    go_enter Tryz.func90, Tryz.ntmps90
    go_wp2_with (first
      | (go_at_call 42; refine (at_any hE HS.out.rd 0 (by omega)).mono ?_; rintro e w1 ⟨rfl, hb⟩; have HS1 := Lib.hid ((HS.out.below hb).push #[.int .i64 (E.tok (s.i + 0)).kind, .string (E.tok (s.i + 0)).str, .int .i64 (E.tok (s.i + 0)).at_] 46); clear hb)
      | (go_at_call 86; refine (htake _ HS1.out.rd).mono ?_; rintro e w2 ⟨rfl, hr, hf⟩; have hs := HS1.out.go hr hf; have a0 := hs.bx.at_ (List.mem_cons_self ..) 0 rfl; have a1 := hs.bx.at_ (List.mem_cons_self ..) 1 rfl; have a2 := hs.bx.at_ (List.mem_cons_self ..) 2 rfl; have z0 := hs.bx.at_ (List.mem_cons_of_mem _ (List.mem_cons_self ..)) 0 rfl; have z1 := hs.bx.at_ (List.mem_cons_of_mem _ (List.mem_cons_self ..)) 1 rfl; have z2 := hs.bx.at_ (List.mem_cons_of_mem _ (List.mem_cons_self ..)) 2 rfl; have y0 := hs.bx.fz (List.mem_cons_of_mem _ (List.mem_cons_self ..)) 0; have y1 := hs.bx.fz (List.mem_cons_of_mem _ (List.mem_cons_self ..)) 1; have y2 := hs.bx.fz (List.mem_cons_of_mem _ (List.mem_cons_self ..)) 2; have HS2 := Lib.hid hs; clear hs hr hf))
    have hs := ((HS2.out.swap.setRow 0 (.int .i64 (E.tok s.i).kind)).setRow 1 (.string (E.tok s.i).str)).setRow 2 (.int .i64 (E.tok s.i).at_)
    exact end_tok rfl rfl ⟨_, _, (hs.bx.rw _ (List.mem_cons_self ..)).2⟩ ⟨⟨_, rfl, rfl⟩, hs.rd, hs.bx.fp⟩
/-- A name's node: its list is nil. -/
def VNm (_ _ : World) (t : Nd) (v : Value) : Prop := ∃ sx a, t = .mk 14 sx 0 a [] ∧ v = .agg #[.int .i64 14, .string sx, .int .i64 0, .int .i64 a, .slice none 0 0] ∧ okI a ∧ sx.size ≤ 140737488351232
/-- name. -/
theorem name_nm (hE : EnvOk E M) (h : RdAt E M s W) : Calls Tryz.prog 87 #[.pointer (some ⟨M.bp, 0, none⟩)] W (Post E M VNm W (nameR E s)) := by
  have HS := Lib.hid ((St.init h).push #[.int .i64 0, .string ⟨#[]⟩, .int .i64 0, .int .i64 0, .slice none 0 0] 25)
  have hnd := fun W' => named_any (E.tok (s.i + 0)).kind (E.tok (s.i + 0)).str (E.tok (s.i + 0)).at_ W'
  obtain ⟨R, HR⟩ : ∃ R, Hid (nameR E s = R) := ⟨_, rfl⟩
  rw [HR.out]
  have hsp := HR.out
  unfold nameR at hsp
  have hnb : namedB ⟨(E.tok (s.i + 0)).kind, (E.tok (s.i + 0)).str.data.toList, (E.tok (s.i + 0)).at_⟩ = namedB (cur E s) := rfl
  rw [hnb] at hnd
  have hlt : namedB (cur E s) = true → s.i < E.n := named_lt hE.ok
  have hn := hE.n
  cases HB : namedB (cur E s) with
  | false =>
    simp only [HB, Bool.false_eq_true, if_false] at hnd hsp
    clear h HR hnb hlt
    go_enter Tryz.func87, Tryz.ntmps87
    go_wp2_with (first
      | (go_at_call 42; refine (at_any hE HS.out.rd 0 (by omega)).mono ?_; rintro e w1 ⟨rfl, hb⟩; have hs := ((HS.out.below hb).push #[.int .i64 (E.tok (s.i + 0)).kind, .string (E.tok (s.i + 0)).str, .int .i64 (E.tok (s.i + 0)).at_] 46); have HS1 := Lib.hid hs; clear hs hb)
      | (go_at_call 141; refine (hnd _).mono ?_; rintro e w2 ⟨rfl, hb⟩; have HS2 := Lib.hid (HS1.out.below hb); clear hb)
      | (go_at_call 44; refine (fail_any hE HS2.out.rd).mono ?_; rintro e w3 ⟨rfl, hb⟩))
    exact ⟨rfl, bad_end hsp.symm (HS2.out.below hb).fp⟩
  | true =>
    have hlt := hlt HB
    simp only [HB, if_true] at hnd hsp
    clear h HR hnb
    go_enter Tryz.func87, Tryz.ntmps87
    go_wp2_with (first
      | (go_at_call 42; refine (at_any hE HS.out.rd 0 (by omega)).mono ?_; rintro e w1 ⟨rfl, hb⟩; have hs := ((HS.out.below hb).push #[.int .i64 (E.tok (s.i + 0)).kind, .string (E.tok (s.i + 0)).str, .int .i64 (E.tok (s.i + 0)).at_] 46); have HS1 := Lib.hid hs; clear hs hb)
      | (go_at_call 141; refine (hnd _).mono ?_; rintro e w2 ⟨rfl, hb⟩; have hs := HS1.out.below hb; have c1 := hs.rd.c1; have f1 := hs.rd.fz 1; have hs3 := hs.adv1 hE (by omega)
         have a0 := hs3.bx.at_ (List.mem_cons_self ..) 0 rfl; have a1 := hs3.bx.at_ (List.mem_cons_self ..) 1 rfl; have a2 := hs3.bx.at_ (List.mem_cons_self ..) 2 rfl; have z0 := hs3.bx.at_ (List.mem_cons_of_mem _ (List.mem_cons_self ..)) 0 rfl; have z1 := hs3.bx.at_ (List.mem_cons_of_mem _ (List.mem_cons_self ..)) 1 rfl; have z2 := hs3.bx.at_ (List.mem_cons_of_mem _ (List.mem_cons_self ..)) 2 rfl; have z3 := hs3.bx.at_ (List.mem_cons_of_mem _ (List.mem_cons_self ..)) 3 rfl; have z4 := hs3.bx.at_ (List.mem_cons_of_mem _ (List.mem_cons_self ..)) 4 rfl; have y0 := hs3.bx.fz (List.mem_cons_of_mem _ (List.mem_cons_self ..)) 0; have y1 := hs3.bx.fz (List.mem_cons_of_mem _ (List.mem_cons_self ..)) 1; have y2 := hs3.bx.fz (List.mem_cons_of_mem _ (List.mem_cons_self ..)) 2; have y3 := hs3.bx.fz (List.mem_cons_of_mem _ (List.mem_cons_self ..)) 3; have y4 := hs3.bx.fz (List.mem_cons_of_mem _ (List.mem_cons_self ..)) 4; have HS2 := Lib.hid hs3; clear hb hs hs3))
    have hs := ((((HS2.out.swap.setRow 0 (.int .i64 14)).setRow 1 (.string (E.tok s.i).str)).setRow 2 (.int .i64 0)).setRow 3 (.int .i64 (E.tok s.i).at_)).setRow 4 (.slice none 0 0)
    refine end_node rfl rfl ⟨_, _, (hs.bx.rw _ (List.mem_cons_self ..)).2⟩ ?_
    rw [← hsp]
    exact ⟨⟨_, rfl, _, _, rfl, rfl, hE.at_ _, hE.str _⟩, hs.rd, hs.fp⟩
theorem VNm.nd {w w' : World} {t : Nd} {v : Value} (h : VNm w w' t v) : VNd w w' t v := by
  obtain ⟨sx, a, rfl, rfl, ha, hs⟩ := h
  exact LiesP.toA (P := fun _ => False) (fun _ h => h.elim) (LiesP.leaf ⟨by decide, by decide⟩ ⟨by decide, by decide⟩ ha hs)
theorem name_any (hE : EnvOk E M) (h : RdAt E M s W) : Calls Tryz.prog 87 #[.pointer (some ⟨M.bp, 0, none⟩)] W (Post E M VNd W (nameR E s)) := by
  refine (name_nm hE h).mono fun e w' hp => ?_
  cases hr : nameR E s with
  | ok x s1 =>
    rw [hr] at hp
    obtain ⟨⟨v, h1, h2⟩, h3, h4⟩ := hp
    exact ⟨⟨v, h1, h2.nd⟩, h3, h4⟩
  | bad i => rw [hr] at hp; exact hp
  | out => rw [hr] at hp; exact hp
end
end Go.Proofs.YtokhfhibdeneeaaGreatDoor

namespace Go.Proofs.YtokhfhibdeneeaaGreatDoor
open Go.RowKit

section
variable {P : Program} {ops : Array Oper} {Q : Exit → Act → World → Prop} {md : Region.Mode} {X : List Nat} {S : World → Prop}

/-- One of X has come up, or S holds. -/
def GoodG (X : List Nat) (S : World → Prop) (listed : Array Bool) (w : World) : Prop := (∃ x ∈ X, listed.getD x false = true) ∨ S w

def wpAnyG (P : Program) (md : Region.Mode) (ops : Array Oper) (Q : Exit → Act → World → Prop) (X : List Nat) (S : World → Prop) : Nat → Array Bool → Act → World → Prop
  | 0, listed, a, w => Region.ready md ops listed = [] ∧ Q .normal a w
  | fuel + 1, listed, a, w =>
    (Region.ready md ops listed = [] → Q .normal a w) ∧
    ∀ i ∈ Region.ready md ops listed, wpOp P ops Q i (fun a' w' => GoodG X S (listed.setIfInBounds i true) w' ∧ wpAnyG P md ops Q X S fuel (listed.setIfInBounds i true) a' w') a w

theorem wpAny_of_G : ∀ (fuel : Nat) (listed : Array Bool) (a : Act) (w : World), wpAnyG P md ops Q X S fuel listed a w → wpAny P md ops Q fuel listed a w
  | 0, _, _, _, h => h
  | fuel + 1, _, _, _, h => ⟨h.1, fun i hi => wpOp_mono (fun a' w' h' => wpAny_of_G fuel _ a' w' h'.2) (h.2 i hi)⟩

/-- Once one of X has come up nothing is asked of the world. -/
theorem wpAnyG_of_any {x : Nat} (hx : x ∈ X) : ∀ (fuel : Nat) (listed : Array Bool) (a : Act) (w : World), listed.getD x false = true → wpAny P md ops Q fuel listed a w → wpAnyG P md ops Q X S fuel listed a w
  | 0, _, _, _, _, h => h
  | fuel + 1, _, _, _, hl, h => ⟨h.1, fun i hi => wpOp_mono (fun a' w' h' => ⟨.inl ⟨x, hx, getD_set_true hl⟩, wpAnyG_of_any hx fuel _ a' w' (getD_set_true hl) h'⟩) (h.2 i hi)⟩

/-- All of X wait for i. -/
def waits (md : Region.Mode) (ops : Array Oper) (X : List Nat) (i : Nat) : Bool := X.all fun x => x != i && match ops[x]? with
  | some o => o.after.any fun e => Region.binds md e && e.on == i
  | none => false
theorem waits_spec {i x : Nat} (h : waits md ops X i = true) (hx : x ∈ X) : x ≠ i ∧ ∃ o, ops[x]? = some o ∧ ∃ e ∈ o.after, Region.binds md e = true ∧ e.on = i := by
  have := List.all_eq_true.1 h x hx
  simp only [Bool.and_eq_true, bne_iff_ne, ne_eq] at this
  obtain ⟨h1, h2⟩ := this
  cases ho : ops[x]? with
  | none => rw [ho] at h2; cases h2
  | some o =>
    rw [ho] at h2
    obtain ⟨e, he, hb⟩ := Array.any_eq_true'.1 h2
    simp only [Bool.and_eq_true, beq_iff_eq] at hb
    exact ⟨h1, o, rfl, e, he, hb.1, hb.2⟩

theorem wpAnyG_first {i : Nat} {oi : Oper} {v : Value} (hi : ops[i]? = some oi) (hsel : ∀ (j : Nat) (o : Oper) cs b, ops[j]? = some o → o.op ≠ .select cs b)
    (hQ : ∀ c a w, Q (.panic c) (a.put oi.dst v) w → Q (.panic c) a w) (hX : waits md ops X i = true) :
    ∀ (fuel : Nat) (listed : Array Bool) (a : Act) (w : World),
      (∀ j oj, ops[j]? = some oj → j ≠ i → listed.getD j true = false → (∀ e ∈ oj.after, Region.binds md e = true → e.on ≠ i) → oi.apart ops oj = true) →
      i ∈ Region.ready md ops listed → (∀ x ∈ X, listed.getD x false = false) → YieldsIf P ops S oi v a → S w →
      wpAnyG P md ops Q X S fuel (listed.setIfInBounds i true) (a.put oi.dst v) w → wpAnyG P md ops Q X S (fuel + 1) listed a w := by
  intro fuel
  induction fuel with
  | zero =>
    intro listed a w _ hr _ hy hS H
    refine ⟨fun h => (by rw [h] at hr; cases hr), fun j hj => ?_⟩
    by_cases hji : j = i
    · subst hji; exact hy.wpOp hi hS ⟨.inr hS, H⟩
    · have := ready_mono hj hji
      rw [H.1] at this
      cases this
  | succ fuel ih =>
    intro listed a w hfree hr hno hy hS H
    refine ⟨fun h => (by rw [h] at hr; cases hr), fun j hj => ?_⟩
    by_cases hji : j = i
    · subst hji; exact hy.wpOp hi hS ⟨.inr hS, H⟩
    · have h1 := H.2 j (ready_mono hj hji)
      obtain ⟨hjun, oj, hoj, hall⟩ := mem_ready.1 hj
      have hnot : ∀ e ∈ oj.after, Region.binds md e = true → e.on ≠ i := fun e he hb heq => by
        have h1 := hall e he hb
        have h0 := (mem_ready.1 hr).1
        rw [heq] at h1
        rcases Nat.lt_or_ge i listed.size with h' | h'
        · simp [h'] at h0 h1; rw [h0] at h1; cases h1
        · simp [Array.getElem?_eq_none h'] at h1
      have hjX : j ∉ X := fun hx => by
        obtain ⟨_, o, ho, e, he, hb, hon⟩ := waits_spec hX hx
        rw [hoj] at ho
        injection ho with ho
        subst ho
        exact hnot e he hb hon
      have hno' : ∀ x ∈ X, (listed.setIfInBounds j true).getD x false = false := fun x hx => by
        have hjx : j ≠ x := fun e => hjX (by rw [e]; exact hx)
        rw [getD_set_ne false hjx]
        exact hno x hx
      have h2 := wpOp_putIf hoj (hfree j oj hoj hji hjun hnot) (fun cs b => hsel i oi cs b hi) (fun cs b => hsel j oj cs b hoj) hQ hy h1
      have hfree' : ∀ k ok, ops[k]? = some ok → k ≠ i → (listed.setIfInBounds j true).getD k true = false →
          (∀ e ∈ ok.after, Region.binds md e = true → e.on ≠ i) → oi.apart ops ok = true := fun k ok hk hki hun hno => by
        refine hfree k ok hk hki ?_ hno
        by_cases hjk : j = k
        · subst hjk; exact hjun
        · rw [getD_set_ne true hjk] at hun; exact hun
      have hGS : ∀ w', GoodG X S ((listed.setIfInBounds i true).setIfInBounds j true) w' → S w' := fun w' hg => by
        rcases hg with ⟨x, hx, hxl⟩ | hg
        · have hjx : j ≠ x := fun e => hjX (by rw [e]; exact hx)
          have hix : i ≠ x := fun e => (waits_spec hX hx).1 e.symm
          rw [getD_set_ne false hjx, getD_set_ne false hix, hno x hx] at hxl
          cases hxl
        · exact hg
      refine wpOp_mono (fun a' w' h3 => ⟨.inr (hGS _ h3.2.1), ih (listed.setIfInBounds j true) a' w' hfree' (ready_mono hr (Ne.symm hji)) hno' h3.1 (hGS _ h3.2.1) ?_⟩) h2
      rw [Array.setIfInBounds_comm _ _ hji]
      exact h3.2.2

theorem wpAnyG_take {i : Nat} {oi : Oper} {v : Value} {fuel : Nat} {listed : Array Bool} {a : Act} {w : World} (hi : ops[i]? = some oi)
    (hs : Region.noSelect ops = true) (hf : Region.free md ops listed i = true) (hr : (Region.ready md ops listed).contains i = true) (hX : waits md ops X i = true) (hno : (X.all fun x => listed.getD x false == false) = true)
    (hQ : ∀ c a w, Q (.panic c) (a.put oi.dst v) w → Q (.panic c) a w) (hy : YieldsIf P ops S oi v a) (hS : S w)
    (h : wpAnyG P md ops Q X S fuel (listed.setIfInBounds i true) (a.put oi.dst v) w) : wpAnyG P md ops Q X S (fuel + 1) listed a w :=
  wpAnyG_first hi (Region.noSelect_spec hs) hQ hX fuel listed a w (Region.free_spec hi hf) (by simpa using hr) (fun x hx => by simpa using List.all_eq_true.1 hno x hx) hy hS h

/-- Each of the operations 'rs' comes up next. -/
def AllReadyG (P : Program) (md : Region.Mode) (ops : Array Oper) (Q : Exit → Act → World → Prop) (X : List Nat) (S : World → Prop) (fuel : Nat) (listed : Array Bool) (a : Act) (w : World) (rs : List Nat) : Prop :=
  ∀ i ∈ rs, wpOp P ops Q i (fun a' w' => GoodG X S (listed.setIfInBounds i true) w' ∧ wpAnyG P md ops Q X S fuel (listed.setIfInBounds i true) a' w') a w
theorem wpAnyG_ready {rs : List Nat} {fuel : Nat} {listed : Array Bool} {a : Act} {w : World} (hr : Region.ready md ops listed = rs) (hne : rs ≠ [])
    (h : AllReadyG P md ops Q X S fuel listed a w rs) : wpAnyG P md ops Q X S (fuel + 1) listed a w :=
  ⟨fun h0 => absurd (hr ▸ h0) hne, hr ▸ h⟩
theorem AllReadyG.nil {fuel : Nat} {listed : Array Bool} {a : Act} {w : World} : AllReadyG P md ops Q X S fuel listed a w [] := fun _ h => by cases h
/-- An operation behind which S is shown. -/
theorem AllReadyG.cons {fuel : Nat} {listed : Array Bool} {a : Act} {w : World} {i : Nat} {o : Oper} {rs : List Nat} (ho : ops[i]? = some o)
    (h : ∀ K' : Act → World → Prop, Shut (∀ a w, S w → (S w → wpAnyG P md ops Q X S fuel (listed.setIfInBounds i true) a w) → K' a w) → if Region.wanted o (yielded ops a.tmps) = true then Oper.wp P o a w K' Q else K' (a.put o.dst undef) w)
    (hs : AllReadyG P md ops Q X S fuel listed a w rs) : AllReadyG P md ops Q X S fuel listed a w (i :: rs) := fun j hj => by
  rcases List.mem_cons.1 hj with rfl | hj
  · exact wpOp_step ho (fun K' hK => h K' (fun a w hS hW => hK a w ⟨.inr hS, hW hS⟩))
  · exact hs j hj
/-- One of X: from there on nothing is asked of the world. -/
theorem AllReadyG.last {fuel : Nat} {listed : Array Bool} {a : Act} {w : World} {i : Nat} {o : Oper} {rs : List Nat} (ho : ops[i]? = some o) (hi : i ∈ X) (hl : i < listed.size)
    (h : ∀ K' : Act → World → Prop, Shut (∀ a w, wpAny P md ops Q fuel (listed.setIfInBounds i true) a w → K' a w) → if Region.wanted o (yielded ops a.tmps) = true then Oper.wp P o a w K' Q else K' (a.put o.dst undef) w)
    (hs : AllReadyG P md ops Q X S fuel listed a w rs) : AllReadyG P md ops Q X S fuel listed a w (i :: rs) := fun j hj => by
  have hg : (listed.setIfInBounds i true).getD i false = true := by simp [hl]
  rcases List.mem_cons.1 hj with rfl | hj
  · exact wpOp_step ho (fun K' hK => h K' (fun a w hW => hK a w ⟨.inl ⟨j, hi, hg⟩, wpAnyG_of_any hi fuel _ a w hg hW⟩))
  · exact hs j hj
theorem wpAnyG_done {listed : Array Bool} {a : Act} {w : World} (hr : Region.ready md ops listed = []) (h : Q .normal a w) : ∀ fuel, wpAnyG P md ops Q X S fuel listed a w
  | 0 => ⟨hr, h⟩
  | _ + 1 => ⟨fun _ => h, by rw [hr]; simp⟩
/-- The beginning. -/
theorem wp_region_G {id : Nat} {a : Act} {w : World} (X : List Nat) (S : World → Prop) (hm : P.follows .mixedOrders = true) (hS : S w.drew)
    (h : S w.drew → wpAnyG P .any ops Q X S ops.size (Array.replicate ops.size false) a w.drew) : (Code.region id ops true).wp P Q a w :=
  wp_region_any hm (wpAny_of_G _ _ _ _ (h hS))

/-- The plain moves: each of the operations 'rs' comes up next. -/
theorem wpAny_ready' {rs : List Nat} {fuel : Nat} {listed : Array Bool} {a : Act} {w : World} (hr : Region.ready md ops listed = rs) (hne : rs ≠ [])
    (h : AllReady P md ops Q fuel listed a w rs) : wpAny P md ops Q (fuel + 1) listed a w := wpAny_all hr hne h
theorem allReady_nil {fuel : Nat} {listed : Array Bool} {a : Act} {w : World} : AllReady P md ops Q fuel listed a w [] := fun _ h => by cases h
theorem allReady_cons {fuel : Nat} {listed : Array Bool} {a : Act} {w : World} {i : Nat} {o : Oper} {rs : List Nat} (ho : ops[i]? = some o)
    (h : ∀ K' : Act → World → Prop, Shut (∀ a w, wpAny P md ops Q fuel (listed.setIfInBounds i true) a w → K' a w) → if Region.wanted o (yielded ops a.tmps) = true then Oper.wp P o a w K' Q else K' (a.put o.dst undef) w)
    (hs : AllReady P md ops Q fuel listed a w rs) : AllReady P md ops Q fuel listed a w (i :: rs) := fun j hj => by
  rcases List.mem_cons.1 hj with rfl | hj
  · exact wpOp_step ho (fun K' hK => h K' (fun a w hW => hK a w hW))
  · exact hs j hj
end
end Go.Proofs.YtokhfhibdeneeaaGreatDoor

namespace Go.Proofs.YtokhfhibdeneeaaGreatDoor
open Go.RowKit

theorem exists_least {P : Nat → Prop} (h : ∃ n, P n) : ∃ n, P n ∧ ∀ m, P m → n ≤ m := by
  obtain ⟨n, hn⟩ := h
  induction n using Nat.strongRecOn with
  | _ n ih =>
    by_cases hs : ∃ m, m < n ∧ P m
    · obtain ⟨m, hm, hp⟩ := hs
      exact ih m hm hp
    · exact ⟨n, hn, fun m hm => Nat.le_of_not_lt fun e => hs ⟨m, e, hm⟩⟩
open Classical in
/-- The least number of which something holds. -/
noncomputable def least (P : Nat → Prop) : Nat := if h : ∃ n, P n then Classical.choose (exists_least h) else 0
theorem least_spec {P : Nat → Prop} (h : ∃ n, P n) : P (least P) := by
  unfold least
  rw [dif_pos h]
  exact (Classical.choose_spec (exists_least h)).1
theorem least_le {P : Nat → Prop} {m : Nat} (h : P m) : least P ≤ m := by
  have h' : ∃ n, P n := ⟨m, h⟩
  unfold least
  rw [dif_pos h']
  exact (Classical.choose_spec (exists_least h')).2 m h

/-- What a step of many leaves. -/
def CloPost {α : Type} (E : Env) (M : Rm) (H0 : Nat) (Inv : α → World → Prop) (Pc : α → Prop) (W : World) (r : Rr α) (e : Ending) (W' : World) : Prop :=
  match r with
  | .ok a s => e = .returned (.tuple #[]) ∧ RdAt E M s W' ∧ Inv a W' ∧ Foot H0 (fun k => k = M.bp) W W' ∧ Pc a
  | .bad i => e = .panicked (stuckP (E.tok i)) ∧ Foot H0 (fun k => k = M.bp) W W'
  | .out => False
/-- A function value that takes what was read a step further; c: how much that is, at most C ahead, at most d more behind. -/
def Clo {α : Type} (E : Env) (M : Rm) (H0 : Nat) (Inv : α → World → Prop) (c : α → Nat) (C d : Nat) (f : FuncId) (caps : Array Value) (m : α → Rs → Rr α) : Prop :=
  (∀ W, Sem.run Tryz.prog (callFunc f caps) W = .ok (.enter f caps) W) ∧ ∀ a s W, RdAt E M s W → Inv a W → c a ≤ C → m a s ≠ .out → Calls Tryz.prog f caps W (CloPost E M H0 Inv (fun a' => c a' ≤ c a + d) W (m a s))
/-- What is kept where only the reader turns. -/
structure Keeps {α : Type} (M : Rm) (H0 : Nat) (Inv : α → World → Prop) : Prop where
  keep : ∀ a W W', Fp M.bp W W' → Inv a W → Inv a W'
  size : ∀ a W, Inv a W → H0 ≤ W.heap.size
theorem Fp.foot {bp H0 : Nat} {W W' : World} (h : Fp bp W W') (hl : H0 ≤ W.heap.size) : Foot H0 (fun k => k = bp) W W' := Foot.mono h hl fun _ _ h => h

theorem Fp.trans' {bp : Nat} {a b c : World} (h : Fp bp a b) (k : Foot a.heap.size (fun k => k = bp) b c) : Fp bp a c := Foot.trans h k
theorem CloPost.use {α β : Type} {E : Env} {M : Rm} {W : World} {H0 : Nat} {Inv : α → World → Prop} {Pc : α → Prop} {Q : Ending → World → Prop} {r : Rr α} {k : α → Rs → Rr β} {R : Rr β} {f : FuncId} {args : Array Value} (hR : r.bind k = R) (hne : R ≠ .out) (hc : r ≠ .out → Calls Tryz.prog f args W (CloPost E M H0 Inv Pc W r))
    (hbad : ∀ i W', R = .bad i → Foot H0 (fun k => k = M.bp) W W' → Q (.panicked (stuckP (E.tok i))) W')
    (hok : ∀ x s W', k x s = R → RdAt E M s W' → Inv x W' → Foot H0 (fun k => k = M.bp) W W' → Pc x → Q (.returned (.tuple #[])) W') : Calls Tryz.prog f args W Q := by
  have h0 : r ≠ .out := fun e => hne (by rw [← hR, e]; rfl)
  refine (hc h0).mono fun e W' h => ?_
  cases r with
  | ok x s =>
    obtain ⟨rfl, hr, hi, hf, hp⟩ := h
    exact hok x s W' hR hr hi hf hp
  | bad i =>
    obtain ⟨rfl, hf⟩ := h
    exact hbad i W' hR.symm hf
  | out => exact absurd rfl h0
theorem clo_bad {α : Type} {E : Env} {M : Rm} {W W' : World} {H0 : Nat} {Inv : α → World → Prop} {Pc : α → Prop} {R : Rr α} {i : Nat} (hi : R = .bad i) (hf : Foot H0 (fun k => k = M.bp) W W') : CloPost E M H0 Inv Pc W R (.panicked (stuckP (E.tok i))) W' := by
  subst hi
  exact ⟨rfl, hf⟩

set_option maxRecDepth 100000 in
set_option maxHeartbeats 2000000 in
theorem row_rd {α : Type} {E : Env} {M : Rm} {H0 : Nat} {Inv : α → World → Prop} {f : FuncId} {caps : Array Value} {m : α → Rs → Rr α} {c : α → Nat} {C : Nat} (hE : EnvOk E M) (hK : Keeps M H0 Inv) (hc : Clo E M H0 Inv c C 1 f caps m) (x : ByteArray) (l : List UInt8) (hx : x.data.toList = l)
    (n : Nat) (a : α) (s : Rs) (W : World) (hr : RdAt E M s W) (hi : Inv a W) (hcn : c a + n ≤ C + 1) (hne : rowR E l m n a s ≠ .out) :
    Calls Tryz.prog 189 #[.pointer (some ⟨M.bp, 0, none⟩), .string x, .func (.func f) #[] caps] W (CloPost E M H0 Inv (fun a' => c a' ≤ c a + n) W (rowR E l m n a s)) := by
  obtain ⟨R, HR⟩ : ∃ R, Hid (rowR E l m n a s = R) := ⟨_, rfl⟩
  have hneR : R ≠ .out := by rw [← HR.out]; exact hne
  rw [HR.out]
  have HNE := Lib.hid hneR
  have HC := Lib.hid hc.2
  have hent := hc.1
  have HST := Lib.hid (And.intro hr hi)
  obtain ⟨B, HB0⟩ : ∃ B, Hid (c a + n = B) := ⟨_, rfl⟩
  rw [HB0.out] at hcn ⊢
  clear hne hneR hc hr hi
  go_enter Tryz.func189, Tryz.ntmps189
  go_wp2_with fail
  go_loopw [] (fun wr => ∃ n', Hid (∃ a s, RdAt E M s wr ∧ Inv a wr ∧ Foot H0 (fun k => k = M.bp) W wr ∧ c a + n' ≤ B ∧ rowR E l m n' a s = R)) (fun wr => least fun n' => Hid (∃ a s, RdAt E M s wr ∧ Inv a wr ∧ Foot H0 (fun k => k = M.bp) W wr ∧ c a + n' ≤ B ∧ rowR E l m n' a s = R))
  case atStart => exact ⟨n, a, s, HST.out.1, HST.out.2, Foot.refl _ _ _, Nat.le_of_eq HB0.out, HR.out⟩
  case round =>
    obtain ⟨N, hN⟩ : ∃ N, N = least fun n' => Hid (∃ a s, RdAt E M s wr ∧ Inv a wr ∧ Foot H0 (fun k => k = M.bp) W wr ∧ c a + n' ≤ B ∧ rowR E l m n' a s = R) := ⟨_, rfl⟩
    have hsp := least_spec hrel
    rw [← hN] at hsp
    obtain ⟨a1, s1, hr1, hi1, hf1, hcc1, he1⟩ := hsp.out
    have hsz := hK.size _ _ hi1
    cases hn : N with
    | zero => exact absurd (by rw [hn] at he1; exact he1.symm) HNE.out
    | succ N' =>
    rw [hn] at he1 hcc1
    have hca1 : c a1 ≤ C := by omega
    have HE1 := Lib.hid he1
    have HS1 := Lib.hid (And.intro hr1 (And.intro hi1 (And.intro hf1 hsz)))
    have HN := Lib.hid hN
    clear hsp hrel he1 hr1 hi1 hf1 hsz hN HST
    cases hb : isT E s1 l with
    | true =>
      have hfin : R = .ok a1 s1 := by rw [← HE1.out, rowR, if_pos hb]
      have HF := Lib.hid hfin
      clear hfin
      have his := is_any hE HS1.out.1 x l hx
      rw [hb] at his
      go_wp2_with (go_at_call 139; refine his.mono ?_; rintro e w1 ⟨rfl, hbe⟩)
      go_end0
      rw [HF.out]
      exact ⟨rfl, HS1.out.1.below hbe, hK.keep _ _ _ (Fp.of hbe) HS1.out.2.1, HS1.out.2.2.1.trans ((Fp.of hbe).foot HS1.out.2.2.2), by omega⟩
    | false =>
      have hbody : (m a1 s1).bind (fun a s => if isT E s [44] then rowR E l m N' a (adv s 1) else if isT E s l then rowR E l m N' a s else .bad s.i) = R := by rw [← HE1.out, rowR, if_neg (by rw [hb]; decide)]
      have HB := Lib.hid hbody
      clear hbody
      have his := is_any hE HS1.out.1 x l hx
      rw [hb] at his
      go_wp2_with (first
        | (go_at_call 139; refine his.mono ?_; rintro e w1 ⟨rfl, hbe⟩)
        | (refine CloPost.use HB.out HNE.out (fun h => HC.out _ _ _ (HS1.out.1.below hbe) (hK.keep _ _ _ (Fp.of hbe) HS1.out.2.1) hca1 h) (fun i W' hi hf => ⟨rfl, clo_bad hi (HS1.out.2.2.1.trans (((Fp.of hbe).foot HS1.out.2.2.2).trans hf))⟩) ?_; intro x2 s2 w2 hk2 hr2 hi2 hf2 hc2))
      have hcb2 : c x2 + N' ≤ B := by omega
      have hsz2 : H0 ≤ w2.heap.size := Nat.le_trans HS1.out.2.2.2 (Nat.le_trans hbe.size (Foot.size hf2))
      have hft2 : Foot H0 (fun k => k = M.bp) W w2 := HS1.out.2.2.1.trans (((Fp.of hbe).foot HS1.out.2.2.2).trans hf2)
      have hk2' : (if isT E s2 [44] then rowR E l m N' x2 (adv s2 1) else if isT E s2 l then rowR E l m N' x2 s2 else .bad s2.i) = R := hk2
      have HS2 := Lib.hid (And.intro hr2 (And.intro hi2 (And.intro hft2 hsz2)))
      have HK2 := Lib.hid hk2'
      clear his hbe hr2 hi2 hf2 hsz2 hft2 hk2 hk2'
      cases hb2 : isT E s2 [44] with
      | true =>
        have htk := take_any hE HS2.out.1 ⟨#[44]⟩ [44] rfl
        have hts : takeS E [44] s2 = adv s2 1 := by rw [takeS, if_pos hb2]
        have hfin : rowR E l m N' x2 (adv s2 1) = R := by rw [← HK2.out, if_pos hb2]
        rw [hb2, hts] at htk
        clear hts
        go_wp2_with (go_at_call 86; refine htk.mono ?_; rintro e w3 ⟨rfl, hr3, hf3⟩)
        go_roundw
        case rel => exact ⟨N', x2, adv s2 1, hr3, hK.keep _ _ _ hf3 HS2.out.2.1, HS2.out.2.2.1.trans (hf3.foot HS2.out.2.2.2), hcb2, hfin⟩
        case measure =>
          rw [← HN.out, hn]
          exact Nat.lt_succ_of_le (least_le ⟨x2, adv s2 1, hr3, hK.keep _ _ _ hf3 HS2.out.2.1, HS2.out.2.2.1.trans (hf3.foot HS2.out.2.2.2), hcb2, hfin⟩)
      | false =>
        have htk := take_any hE HS2.out.1 ⟨#[44]⟩ [44] rfl
        have hts : takeS E [44] s2 = s2 := by rw [takeS, if_neg (by rw [hb2]; decide)]
        rw [hb2, hts] at htk
        have hfin : (if isT E s2 l then rowR E l m N' x2 s2 else .bad s2.i) = R := (if_neg (by rw [hb2]; decide)).symm.trans HK2.out
        clear hts
        cases hb3 : isT E s2 l with
        | true =>
          have hfin : rowR E l m N' x2 s2 = R := (if_pos hb3).symm.trans hfin
          go_wp2_with (first
            | (go_at_call 86; refine htk.mono ?_; rintro e w3 ⟨rfl, hr3, hf3⟩)
            | (go_at_call 139; refine (is_any hE hr3 x l hx).mono ?_; rw [hb3]; rintro e w4 ⟨rfl, hb4⟩))
          go_roundw
          case rel => exact ⟨N', x2, s2, hr3.below hb4, hK.keep _ _ _ (hf3.trans (Fp.of hb4)) HS2.out.2.1, HS2.out.2.2.1.trans ((hf3.trans (Fp.of hb4)).foot HS2.out.2.2.2), hcb2, hfin⟩
          case measure =>
            rw [← HN.out, hn]
            exact Nat.lt_succ_of_le (least_le ⟨x2, s2, hr3.below hb4, hK.keep _ _ _ (hf3.trans (Fp.of hb4)) HS2.out.2.1, HS2.out.2.2.1.trans ((hf3.trans (Fp.of hb4)).foot HS2.out.2.2.2), hcb2, hfin⟩)
        | false =>
          have hfin : R = .bad s2.i := hfin.symm.trans (if_neg (by rw [hb3]; decide))
          go_wp2_with (first
            | (go_at_call 86; refine htk.mono ?_; rintro e w3 ⟨rfl, hr3, hf3⟩)
            | (go_at_call 139; refine (is_any hE hr3 x l hx).mono ?_; rw [hb3]; rintro e w4 ⟨rfl, hb4⟩)
            | (go_at_call 44; refine (fail_any hE (hr3.below hb4)).mono ?_; rintro e w5 ⟨rfl, hb5⟩))
          exact ⟨rfl, clo_bad hfin (HS2.out.2.2.1.trans ((hf3.trans ((Fp.of hb4).trans (Fp.of hb5))).foot HS2.out.2.2.2))⟩

theorem open_rd {α : Type} {E : Env} {M : Rm} {H0 : Nat} {Inv : α → World → Prop} {f : FuncId} {caps : Array Value} {m : α → Rs → Rr α} {c : α → Nat} {C d : Nat} (hE : EnvOk E M) (hK : Keeps M H0 Inv) (hc : Clo E M H0 Inv c C d f caps m) (x y : ByteArray) (b l : List UInt8) (hx : x.data.toList = b) (hy : y.data.toList = l)
    (a : α) (s : Rs) (W : World) (hr : RdAt E M s W) (hi : Inv a W) (hca : c a ≤ C) (hne : openR E b l m a s ≠ .out) :
    Calls Tryz.prog 181 #[.pointer (some ⟨M.bp, 0, none⟩), .string x, .string y, .func (.func f) #[] caps] W (CloPost E M H0 Inv (fun a' => c a' ≤ c a + d) W (openR E b l m a s)) := by
  obtain ⟨R, HR⟩ : ∃ R, Hid (openR E b l m a s = R) := ⟨_, rfl⟩
  have hneR : R ≠ .out := by rw [← HR.out]; exact hne
  rw [HR.out]
  have HNE := Lib.hid hneR
  have HC := Lib.hid hc.2
  have hent := hc.1
  have HST := Lib.hid (And.intro hr hi)
  have hsz := hK.size _ _ hi
  have HSP : Hid ((wantR E b s).bind (fun _ s1 => (m a { s1 with head := false, typ := false }).bind fun a s2 => (wantR E l { s2 with head := s1.head, typ := s1.typ }).bind fun _ s3 => .ok a s3) = R) := HR.out
  clear hne hneR hc hr hi HR
  go_enter Tryz.func181, Tryz.ntmps181
  go_wp2_with (first
    | (go_at_call 90; refine Post.use HSP.out HNE.out (fun _ => want_any hE HST.out.1 x b hx) (fun i W' hi hf => ⟨rfl, clo_bad hi (hf.foot hsz)⟩) ?_; intro x1 s1 v1 w1 hsp hv hr1 hf1; have HSP1 := Lib.hid hsp; have c3 := hr1.c3; have c4 := hr1.c4; have f3 := hr1.fz 3; have f4 := hr1.fz 4; clear hsp hv))
  go_region
  have hr2 : RdAt E M { s1 with head := false, typ := false } ((w1.drew.setCell ⟨M.bp, 3, none⟩ (.bool false)).setCell ⟨M.bp, 4, none⟩ (.bool false)) := (hr1.drew.setHead hE false).setTyp hE false
  have hf2 : Fp M.bp W ((w1.drew.setCell ⟨M.bp, 3, none⟩ (.bool false)).setCell ⟨M.bp, 4, none⟩ (.bool false)) := (hf1.drew.set 3 _).set 4 _
  have hi2 := hK.keep _ _ _ hf2 HST.out.2
  go_wp2_with (first
    | (refine CloPost.use HSP1.out HNE.out (fun h => HC.out _ _ _ hr2 hi2 hca h) (fun i W' hi hf => ⟨rfl, clo_bad hi ((hf2.foot hsz).trans hf)⟩) ?_; clear c3 c4 f3 f4; intro x3 s3 w3 hk3 hr3 hi3 hf3 hc3; have c3 := hr3.c3; have c4 := hr3.c4; have f3 := hr3.fz 3; have f4 := hr3.fz 4; have HK3 := Lib.hid hk3; clear hk3)
    | (go_at_call 90; refine Post.use HK3.out HNE.out (fun _ => want_any hE ((hr3.setHead hE s1.head).setTyp hE s1.typ) y l hy) (fun i W' hi hf => ⟨rfl, clo_bad hi (((hf2.foot hsz).trans hf3).trans (((Fp.refl M.bp w3).set 3 _ |>.set 4 _ |>.trans hf).foot (hK.size _ _ hi3)))⟩) ?_; intro x4 s4 v4 w4 hk4 hv4 hr4 hf4))
  go_end0
  have hk4' : Rr.ok x3 s4 = R := hk4
  rw [← hk4']
  have hf5 : Fp M.bp w3 w4 := ((Fp.refl M.bp w3).set 3 _ |>.set 4 _).trans hf4
  exact ⟨rfl, hr4, hK.keep _ _ _ hf5 hi3, ((hf2.foot hsz).trans hf3).trans (hf5.foot (hK.size _ _ hi3)), hc3⟩
end Go.Proofs.YtokhfhibdeneeaaGreatDoor

namespace Go.Proofs.YtokhfhibdeneeaaGreatDoor
open Go.RowKit

theorem endsS_step {E : Env} {s : Rs} (hlt : s.i < E.n) (h : ((cur E s).kind == 1) = true) : endsS E (adv s 1) = endsS E s := by
  have h' : ((E.tok s.i).kind == 1) = true := h
  have e : E.n - s.i = (E.n - (s.i + 1)) + 1 := by omega
  unfold endsS adv
  rw [e, endsN, if_pos h']
  simp only [Rs.mk.injEq, and_true]
  omega
theorem endsS_stop {E : Env} {s : Rs} (h : ((cur E s).kind == 1) = false) : endsS E s = s := by
  have h' : ¬ ((E.tok s.i).kind == 1) = true := by intro e; rw [show (E.tok s.i).kind = (cur E s).kind from rfl, h] at e; cases e
  unfold endsS adv
  cases hn : E.n - s.i with
  | zero => rw [endsN]; rfl
  | succ f => rw [endsN, if_neg h']; rfl

theorem str_toList (t : Tk) : t.str.toList = t.text := by rw [ByteArray.toList_eq]; rfl
theorem str_eq (t : Tk) (l : List UInt8) {b : Bool} (h : (t.text == l) = b) : (t.str.toList == l) = b := by rw [str_toList, h]
theorem fieldTok0 (a b c : Value) (w : World) : Sem.run Tryz.prog (Instr.field 46 (.agg #[a, b, c]) 0) w = .ok a w := by kernel_rfl
theorem fieldTok2 (a b c : Value) (w : World) : Sem.run Tryz.prog (Instr.field 46 (.agg #[a, b, c]) 2) w = .ok c w := by kernel_rfl
theorem fieldNd0 (a b c d e : Value) (w : World) : Sem.run Tryz.prog (Instr.field 25 (.agg #[a, b, c, d, e]) 0) w = .ok a w := by kernel_rfl
theorem fieldNd1 (a b c d e : Value) (w : World) : Sem.run Tryz.prog (Instr.field 25 (.agg #[a, b, c, d, e]) 1) w = .ok b w := by kernel_rfl

section
variable {E : Env} {M : Rm} {w0 W W' : World} {rows : List Rw} {gs : Option Gv} {ts : List (Nd × Value)} {s s' : Rs}
/-- The five cells of a node's variable, and that they may be written. -/
theorem Bx.c5 (h : Bx M w0 rows gs ts W) {g : Nat} {v0 v1 v2 v3 v4 : Value} {t : TypeId} (hm : (g, #[v0, v1, v2, v3, v4], t) ∈ rows) :
    W.cell? ⟨g, 0, none⟩ = some v0 ∧ W.cell? ⟨g, 1, none⟩ = some v1 ∧ W.cell? ⟨g, 2, none⟩ = some v2 ∧ W.cell? ⟨g, 3, none⟩ = some v3 ∧ W.cell? ⟨g, 4, none⟩ = some v4 ∧ W.frozen? ⟨g, 0, none⟩ = false ∧ W.frozen? ⟨g, 1, none⟩ = false ∧ W.frozen? ⟨g, 2, none⟩ = false ∧ W.frozen? ⟨g, 3, none⟩ = false ∧ W.frozen? ⟨g, 4, none⟩ = false :=
  ⟨h.at_ hm 0 rfl, h.at_ hm 1 rfl, h.at_ hm 2 rfl, h.at_ hm 3 rfl, h.at_ hm 4 rfl, h.fz hm 0, h.fz hm 1, h.fz hm 2, h.fz hm 3, h.fz hm 4⟩
theorem Bx.c3 (h : Bx M w0 rows gs ts W) {g : Nat} {v0 v1 v2 : Value} {t : TypeId} (hm : (g, #[v0, v1, v2], t) ∈ rows) :
    W.cell? ⟨g, 0, none⟩ = some v0 ∧ W.cell? ⟨g, 1, none⟩ = some v1 ∧ W.cell? ⟨g, 2, none⟩ = some v2 ∧ W.frozen? ⟨g, 0, none⟩ = false ∧ W.frozen? ⟨g, 1, none⟩ = false ∧ W.frozen? ⟨g, 2, none⟩ = false :=
  ⟨h.at_ hm 0 rfl, h.at_ hm 1 rfl, h.at_ hm 2 rfl, h.fz hm 0, h.fz hm 1, h.fz hm 2⟩
theorem Bx.c1 (h : Bx M w0 rows gs ts W) {g : Nat} {v0 : Value} {t : TypeId} (hm : (g, #[v0], t) ∈ rows) : W.cell? ⟨g, 0, none⟩ = some v0 ∧ W.frozen? ⟨g, 0, none⟩ = false := ⟨h.at_ hm 0 rfl, h.fz hm 0⟩
/-- All five cells of the newest variable written. -/
theorem St.set5 {g : Nat} {z0 z1 z2 z3 z4 : Value} {t : TypeId} (h : St E M w0 ((g, #[z0, z1, z2, z3, z4], t) :: rows) gs ts s W) (v0 v1 v2 v3 v4 : Value) :
    St E M w0 ((g, #[v0, v1, v2, v3, v4], t) :: rows) gs ts s (((((W.setCell ⟨g, 0, none⟩ v0).setCell ⟨g, 1, none⟩ v1).setCell ⟨g, 2, none⟩ v2).setCell ⟨g, 3, none⟩ v3).setCell ⟨g, 4, none⟩ v4) :=
  ((((h.setRow 0 v0).setRow 1 v1).setRow 2 v2).setRow 3 v3).setRow 4 v4
/-- The end of a method that hands back a node. -/
theorem St.fin {fn : Func} {slot : Nat} (hr : fn.results = #[.cell slot 25]) {tmps : Array Value} {g : Nat} {k n a : Int} {sx : ByteArray} {lv : Value} {t : Nd} {R : Rr Nd} {ty : TypeId}
    (h : St E M w0 ((g, #[.int .i64 k, .string sx, .int .i64 n, .int .i64 a, lv], ty) :: rows) gs ts s W) (ht : tmps.getD slot undef = .pointer (some ⟨g, 0, none⟩))
    (hl : LiesP W (Mine w0 W ((g, #[.int .i64 k, .string sx, .int .i64 n, .int .i64 a, lv], ty) :: rows) gs) t (.agg #[.int .i64 k, .string sx, .int .i64 n, .int .i64 a, lv])) (hR : Rr.ok t s = R) :
    bodyPost Tryz.prog fn (Post E M VNd w0 R) .ret ⟨tmps, []⟩ W := by
  subst hR
  exact end_node hr ht ⟨_, _, (h.bx.rw _ (List.mem_cons_self ..)).2⟩ (h.nd hl)

theorem at0_rd (hE : EnvOk E M) (h : RdAt E M s W) : Calls Tryz.prog 42 #[.pointer (some ⟨M.bp, 0, none⟩), .int .i64 0] W fun e w' => e = .returned (.agg #[.int .i64 (E.tok s.i).kind, .string (E.tok s.i).str, .int .i64 (E.tok s.i).at_]) ∧ Below W.heap.size W w' := at_any hE h 0 (by omega)
theorem at1_rd (hE : EnvOk E M) (h : RdAt E M s W) : Calls Tryz.prog 42 #[.pointer (some ⟨M.bp, 0, none⟩), .int .i64 1] W fun e w' => e = .returned (.agg #[.int .i64 (E.tok (s.i + 1)).kind, .string (E.tok (s.i + 1)).str, .int .i64 (E.tok (s.i + 1)).at_]) ∧ Below W.heap.size W w' := at_any hE h 1 (by omega)
theorem word_tok (j : Nat) (x : ByteArray) (l : List UInt8) (hx : x.data.toList = l) (w : World) : Calls Tryz.prog 138 #[.agg #[.int .i64 (E.tok j).kind, .string (E.tok j).str, .int .i64 (E.tok j).at_], .string x] w fun e w' => e = .returned (.bool (isW (E.tok j) l)) ∧ Below w.heap.size w w' := by
  subst hx
  exact word_any _ _ _ _ _
theorem named_tok (j : Nat) (w : World) : Calls Tryz.prog 141 #[.agg #[.int .i64 (E.tok j).kind, .string (E.tok j).str, .int .i64 (E.tok j).at_]] w fun e w' => e = .returned (.bool (namedB (E.tok j))) ∧ Below w.heap.size w w' := named_any _ _ _ _
/-- none. -/
theorem none_rd (hE : EnvOk E M) (h : RdAt E M s W) : Calls Tryz.prog 145 #[.pointer (some ⟨M.bp, 0, none⟩)] W fun e W' => e = .returned (.agg #[.int .i64 16, .string ⟨#[]⟩, .int .i64 0, .int .i64 (cur E s).at_, .slice none 0 0]) ∧ Below W.heap.size W W' := by
  have HS := Lib.hid ((St.init h).push #[.int .i64 0, .string ⟨#[]⟩, .int .i64 0, .int .i64 0, .slice none 0 0] 25)
  have HB0 := Lib.hid ((Below.refl W.heap.size W).alloc (Nat.le_refl _) (.cells #[.int .i64 0, .string ⟨#[]⟩, .int .i64 0, .int .i64 0, .slice none 0 0] 25))
  have hfi := fieldTok2
  clear h
  go_enter Tryz.func145, Tryz.ntmps145
  go_wp2_with (go_at_call 42; refine (at_any hE HS.out.rd 0 (by omega)).mono ?_; rintro e w1 ⟨rfl, hb⟩; have hs := HS.out.below hb; obtain ⟨q0, q1, q2, q3, q4, y0, y1, y2, y3, y4⟩ := hs.bx.c5 (List.mem_cons_self ..); have HS1 := Lib.hid hs; clear hs)
  have hs := HS1.out.set5 (.int .i64 16) (.string ⟨#[]⟩) (.int .i64 0) (.int .i64 (E.tok s.i).at_) (.slice none 0 0)
  have hbb : Below W.heap.size W w1 := HB0.out.trans (hb.mono (by simp))
  exact end_node rfl rfl ⟨_, _, (hs.bx.rw _ (List.mem_cons_self ..)).2⟩ ⟨rfl, ((((hbb.setCell (p := ⟨W.heap.size, 0, none⟩) (Nat.le_refl _) _).setCell (p := ⟨W.heap.size, 1, none⟩) (Nat.le_refl _) _).setCell (p := ⟨W.heap.size, 2, none⟩) (Nat.le_refl _) _).setCell (p := ⟨W.heap.size, 3, none⟩) (Nat.le_refl _) _).setCell (p := ⟨W.heap.size, 4, none⟩) (Nat.le_refl _) _⟩

set_option maxRecDepth 100000 in
set_option maxHeartbeats 1000000 in
/-- ends. -/
theorem ends_rd (hE : EnvOk E M) (h : RdAt E M s W) : Calls Tryz.prog 38 #[.pointer (some ⟨M.bp, 0, none⟩)] W fun e W' => e = .returned (.bool (decide (s.i < (endsS E s).i))) ∧ RdAt E M (endsS E s) W' ∧ Fp M.bp W W' := by
  obtain ⟨S', HS'⟩ : ∃ S', Hid (endsS E s = S') := ⟨_, rfl⟩
  rw [HS'.out]
  have c1 := h.c1
  have hn := hE.n
  have hle := h.le
  have H0 := Lib.hid h
  have hE2 : S'.i ≤ E.n := by rw [← HS'.out]; exact endsS_le s hle
  have hfi := fieldTok0
  clear h
  go_enter Tryz.func38, Tryz.ntmps38
  go_wp2_with fail
  go_loopw [] (fun wr => ∃ n', Hid (∃ s1, RdAt E M s1 wr ∧ Fp M.bp W wr ∧ endsS E s1 = S' ∧ n' = E.n - s1.i)) (fun wr => least fun n' => Hid (∃ s1, RdAt E M s1 wr ∧ Fp M.bp W wr ∧ endsS E s1 = S' ∧ n' = E.n - s1.i))
  case atStart => exact ⟨E.n - s.i, s, H0.out, Fp.refl _ _, HS'.out, rfl⟩
  case round =>
    obtain ⟨N, hN⟩ : ∃ N, N = least fun n' => Hid (∃ s1, RdAt E M s1 wr ∧ Fp M.bp W wr ∧ endsS E s1 = S' ∧ n' = E.n - s1.i) := ⟨_, rfl⟩
    have hsp := least_spec hrel
    rw [← hN] at hsp
    obtain ⟨s1, hr1, hf1, he1, hn1⟩ := hsp.out
    have HS1 := Lib.hid (And.intro hr1 (And.intro hf1 he1))
    have HN := Lib.hid (And.intro hN hn1)
    have hle1 := hr1.le
    clear hsp hrel hr1 hf1 he1 hn1 hN c1
    cases hk : ((cur E s1).kind == 1) with
    | true =>
      have hk' : (E.tok s1.i).kind = 1 := by simpa [cur] using hk
      have hlt : s1.i < E.n := kind_lt hE.ok (by rw [hk']; decide)
      have hat := at_any hE HS1.out.1 0 (by omega)
      rw [Nat.add_zero, hk'] at hat
      go_wp2_with (go_at_call 42; refine hat.mono ?_; rintro e w1 ⟨rfl, hb⟩; have hr2 := HS1.out.1.below hb; have c1 := hr2.c1; have f1 := hr2.fz 1)
      go_roundw
      case rel => exact ⟨_, adv s1 1, hr2.setI hE (s1.i + 1) hlt, (HS1.out.2.1.trans (Fp.of hb)).set 1 _, (endsS_step hlt hk).trans HS1.out.2.2, rfl⟩
      case measure =>
        rw [← HN.out.1]
        refine Nat.lt_of_le_of_lt (least_le ⟨adv s1 1, hr2.setI hE (s1.i + 1) hlt, (HS1.out.2.1.trans (Fp.of hb)).set 1 _, (endsS_step hlt hk).trans HS1.out.2.2, rfl⟩) ?_
        rw [HN.out.2]
        simp only [adv]
        omega
    | false =>
      have hk' : ((E.tok s1.i).kind == 1) = false := hk
      have hat := at_any hE HS1.out.1 0 (by omega)
      rw [Nat.add_zero] at hat
      obtain rfl : s1 = S' := (endsS_stop hk).symm.trans HS1.out.2.2
      go_wp2_with (go_at_call 42; refine hat.mono ?_; rintro e w1 ⟨rfl, hb⟩; have hr2 := HS1.out.1.below hb; have c1 := hr2.c1; have f1 := hr2.fz 1)
      go_ret
      exact ⟨ret_bool (by simp), hr2, HS1.out.2.1.trans (Fp.of hb)⟩
end
end Go.Proofs.YtokhfhibdeneeaaGreatDoor

namespace Go.Proofs.YtokhfhibdeneeaaGreatDoor
open Go.RowKit

theorem set5_list (l : List Value) (z0 z1 z2 z3 z4 c0 c1 c2 c3 c4 : Value) {m : Nat} (hm : l.length = m) : (((((l ++ [z0, z1, z2, z3, z4]).set m c0).set (m + 1) c1).set (m + 2) c2).set (m + 3) c3).set (m + 4) c4 = l ++ [c0, c1, c2, c3, c4] := by
  subst hm
  simp

theorem own_set {w : World} {lo : Nat} {e : TypeId} {size b m cap : Nat} {ys : List Value} (h : w.ownsRow lo e size (.slice (some ⟨b, 0, none⟩) m cap) m ys) (j : Nat) (u : Value) : (w.setCell ⟨b, j, none⟩ u).ownsRow lo e size (.slice (some ⟨b, 0, none⟩) m cap) m (ys.set j u) := by
  obtain ⟨h1, h2⟩ := h
  refine ⟨by simpa using h1, ?_⟩
  rcases h2 with ⟨h2, _⟩ | ⟨g, cap', cur, hv, hb, hg, hc1, hc2, hc3, hc4⟩
  · cases h2
  · simp only [Value.slice.injEq, Option.some.injEq, Addr.mk.injEq, and_true, true_and] at hv
    obtain ⟨rfl, rfl⟩ := hv
    refine .inr ⟨b, cap, cur.setIfInBounds j u, rfl, hb, heap_setCell_same w b j _ _ u hg, hc1, hc2, by simpa using hc3, ?_⟩
    rw [← hc4]
    simp [List.take_set]
theorem own_other {w : World} {lo : Nat} {e : TypeId} {size b m cap : Nat} {ys : List Value} (h : w.ownsRow lo e size (.slice (some ⟨b, 0, none⟩) m cap) m ys) {g : Nat} (hne : g ≠ b) (j : Nat) (u : Value) : (w.setCell ⟨g, j, none⟩ u).ownsRow lo e size (.slice (some ⟨b, 0, none⟩) m cap) m ys :=
  h.kept (row := some g) ⟨rfl, rfl, rfl, by simp, fun k _ hk => Below.heap_setCell w _ _ _ (fun e => hk (by rw [e]))⟩ (.inr fun e => hne (by simpa [Value.ownBlock] using e.symm))

theorem os_set (w : World) (p : Addr) (v : Value) : (w.setCell p v).os = w.os := rfl
theorem tape_set (w : World) (p : Addr) (v : Value) : (w.setCell p v).tape = w.tape := rfl
theorem output_set (w : World) (p : Addr) (v : Value) : (w.setCell p v).output = w.output := rfl
/-- What an append, the store of the new element and the store of the list leave. -/
structure AppTo (w1 W3 : World) (lo b nb m cap : Nat) (ys : List Value) (k : Int) (s : ByteArray) (n a : Int) : Prop where
  os : W3.os = w1.os
  tape : W3.tape = w1.tape
  output : W3.output = w1.output
  size : W3.heap.size = w1.heap.size
  block : ∀ i, i ≠ b → i ≠ nb → W3.heap[i]? = w1.heap[i]?
  own : W3.ownsRow lo 25 5 (.slice (some ⟨b, 0, none⟩) m cap) m ys
  box : W3.heap[nb]? = some (.cells #[.int .i64 k, .string s, .int .i64 n, .int .i64 a, .slice (some ⟨b, 0, none⟩) m cap] 25 (0, 0))

section
variable {w1 : World} {lo b nb m cap : Nat} {l : List Value} {z0 z1 z2 z3 z4 : Value} {k : Int} {s : ByteArray} {n a : Int} {v : Value}
theorem AppTo.elemFirst (ho : w1.ownsRow lo 25 5 (.slice (some ⟨b, 0, none⟩) m cap) m (l ++ [z0, z1, z2, z3, z4])) (hbox : w1.heap[nb]? = some (.cells #[.int .i64 k, .string s, .int .i64 n, .int .i64 a, v] 25 (0, 0))) (hne : nb ≠ b) {o : Nat} (ho5 : l.length = o) (c0 c1 c2 c3 c4 : Value) :
    AppTo w1 ((((((w1.setCell ⟨b, o, none⟩ c0).setCell ⟨b, o + 1, none⟩ c1).setCell ⟨b, o + 2, none⟩ c2).setCell ⟨b, o + 3, none⟩ c3).setCell ⟨b, o + 4, none⟩ c4).setCell ⟨nb, 4, none⟩ (.slice (some ⟨b, 0, none⟩) m cap)) lo b nb m cap (l ++ [c0, c1, c2, c3, c4]) k s n a := by
  refine ⟨by simp only [os_set], by simp only [tape_set], by simp only [output_set], by simp, fun i h1 h2 => ?_, ?_, ?_⟩
  · rw [Below.heap_setCell _ _ _ _ h2, Below.heap_setCell _ _ _ _ h1, Below.heap_setCell _ _ _ _ h1, Below.heap_setCell _ _ _ _ h1, Below.heap_setCell _ _ _ _ h1, Below.heap_setCell _ _ _ _ h1]
  · refine own_other ?_ hne _ _
    have p0 := own_set ho o c0
    have p1 := own_set p0 (o + 1) c1
    have p2 := own_set p1 (o + 2) c2
    have p3 := own_set p2 (o + 3) c3
    have p4 := own_set p3 (o + 4) c4
    rw [set5_list l z0 z1 z2 z3 z4 c0 c1 c2 c3 c4 ho5] at p4
    exact p4
  · have hb5 : (((((w1.setCell ⟨b, o, none⟩ c0).setCell ⟨b, o + 1, none⟩ c1).setCell ⟨b, o + 2, none⟩ c2).setCell ⟨b, o + 3, none⟩ c3).setCell ⟨b, o + 4, none⟩ c4).heap[nb]? = w1.heap[nb]? := by
      rw [Below.heap_setCell _ _ _ _ hne, Below.heap_setCell _ _ _ _ hne, Below.heap_setCell _ _ _ _ hne, Below.heap_setCell _ _ _ _ hne, Below.heap_setCell _ _ _ _ hne]
    exact heap_setCell_same _ nb 4 _ _ _ (hb5.trans hbox)
theorem AppTo.boxFirst (ho : w1.ownsRow lo 25 5 (.slice (some ⟨b, 0, none⟩) m cap) m (l ++ [z0, z1, z2, z3, z4])) (hbox : w1.heap[nb]? = some (.cells #[.int .i64 k, .string s, .int .i64 n, .int .i64 a, v] 25 (0, 0))) (hne : nb ≠ b) {o : Nat} (ho5 : l.length = o) (c0 c1 c2 c3 c4 : Value) :
    AppTo w1 ((((((w1.setCell ⟨nb, 4, none⟩ (.slice (some ⟨b, 0, none⟩) m cap)).setCell ⟨b, o, none⟩ c0).setCell ⟨b, o + 1, none⟩ c1).setCell ⟨b, o + 2, none⟩ c2).setCell ⟨b, o + 3, none⟩ c3).setCell ⟨b, o + 4, none⟩ c4) lo b nb m cap (l ++ [c0, c1, c2, c3, c4]) k s n a := by
  refine ⟨by simp only [os_set], by simp only [tape_set], by simp only [output_set], by simp, fun i h1 h2 => ?_, ?_, ?_⟩
  · rw [Below.heap_setCell _ _ _ _ h1, Below.heap_setCell _ _ _ _ h1, Below.heap_setCell _ _ _ _ h1, Below.heap_setCell _ _ _ _ h1, Below.heap_setCell _ _ _ _ h1, Below.heap_setCell _ _ _ _ h2]
  · have p0 := own_set (own_other ho hne 4 (.slice (some ⟨b, 0, none⟩) m cap)) o c0
    have p1 := own_set p0 (o + 1) c1
    have p2 := own_set p1 (o + 2) c2
    have p3 := own_set p2 (o + 3) c3
    have p4 := own_set p3 (o + 4) c4
    rw [set5_list l z0 z1 z2 z3 z4 c0 c1 c2 c3 c4 ho5] at p4
    exact p4
  · rw [Below.heap_setCell _ _ _ _ hne, Below.heap_setCell _ _ _ _ hne, Below.heap_setCell _ _ _ _ hne, Below.heap_setCell _ _ _ _ hne, Below.heap_setCell _ _ _ _ hne]
    exact heap_setCell_same _ nb 4 _ _ _ hbox
/-- The list alone is stored: the new element stood in it at once. -/
theorem AppTo.whole (ho : w1.ownsRow lo 25 5 (.slice (some ⟨b, 0, none⟩) m cap) m l) (hbox : w1.heap[nb]? = some (.cells #[.int .i64 k, .string s, .int .i64 n, .int .i64 a, v] 25 (0, 0))) (hne : nb ≠ b) :
    AppTo w1 (w1.setCell ⟨nb, 4, none⟩ (.slice (some ⟨b, 0, none⟩) m cap)) lo b nb m cap l k s n a :=
  ⟨rfl, rfl, rfl, by simp, fun i _ h2 => Below.heap_setCell _ _ _ _ h2, own_other ho hne _ _, heap_setCell_same _ nb 4 _ _ _ hbox⟩
end

section
variable {E : Env} {M : Rm} {w0 W w1 W3 : World} {rows : List Rw} {ts : List (Nd × Value)} {st : Rs} {g : Gv}
/-- The variable with so many trees more. -/
theorem Bx.appended (h : Bx M w0 rows (some g) ts W) {b cap : Nat} {zs : List Value} (ho1 : w1.ownsRow w0.heap.size 25 5 (.slice (some ⟨b, 0, none⟩) (g.xs.length + zs.length / 5) cap) (g.xs.length + zs.length / 5) (treeCells g.xs ++ zs)) (hg : W.grownBy w1 g.v.ownBlock) (hb : g.v.ownBlock = some b ∨ b = W.heap.size)
    {ys : List (Nd × Value)} (hys : ∀ y ∈ ys, y ∈ ts) (hA : AppTo w1 W3 w0.heap.size b g.nb (g.xs.length + zs.length / 5) cap (treeCells g.xs ++ treeCells ys) g.k g.s g.n g.a) (hl : zs.length / 5 = ys.length) :
    Bx M w0 rows (some ⟨g.nb, g.k, g.s, g.n, g.a, .slice (some ⟨b, 0, none⟩) (g.xs.length + zs.length / 5) cap, g.xs ++ ys⟩) ts W3 := by
  obtain ⟨h1, h2, h3, h4⟩ := h.gw g rfl
  have hlt := h4.lt
  have hbl := ho1.lt b rfl
  have hbnb : b ≠ g.nb := fun e => by
    rcases hb with hb | hb
    · exact h3 (by rw [hb, e])
    · omega
  have hm : ∀ i, Mine w0 W rows (some g) i → Mine w0 W3 rows (some ⟨g.nb, g.k, g.s, g.n, g.a, .slice (some ⟨b, 0, none⟩) (g.xs.length + zs.length / 5) cap, g.xs ++ ys⟩) i := fun i hi => by
    refine ⟨hi.1, by have := hi.2.1; have := hg.size; have := hA.size; omega, hi.2.2.1, fun g' hg' => ?_⟩
    injection hg' with hg'
    subst hg'
    obtain ⟨q1, q2⟩ := hi.2.2.2 g rfl
    refine ⟨q1, fun e => ?_⟩
    have e' : b = i := by simpa [Value.ownBlock] using e
    subst e'
    rcases hb with hb | hb
    · exact q2 hb
    · have := hi.2.1; omega
  have hk : ∀ i, Mine w0 W rows (some g) i → W3.heap[i]? = W.heap[i]? := fun i hi => by
    obtain ⟨q1, q2⟩ := hi.2.2.2 g rfl
    have hib : i ≠ b := fun e => by
      subst e
      rcases hb with hb | hb
      · exact q2 hb
      · have := hi.2.1; omega
    rw [hA.block i hib q1.symm]
    exact hg.block i hi.2.1 (fun e => q2 e.symm)
  have hrow : ∀ r ∈ rows, r.1 ≠ b ∧ W3.heap[r.1]? = W.heap[r.1]? := fun r hr => by
    obtain ⟨q1, q2⟩ := h2 r hr
    have hrl := (Array.getElem?_eq_some_iff.1 (h.rw r hr).2).1
    have hib : r.1 ≠ b := fun e => by
      rcases hb with hb | hb
      · exact q2 (by rw [hb, e])
      · omega
    refine ⟨hib, ?_⟩
    rw [hA.block _ hib q1]
    exact hg.block _ hrl (fun e => q2 e.symm)
  refine ⟨⟨hA.os.trans (hg.os.trans (Foot.os h.fp)), hA.tape.trans (hg.tape.trans (Foot.tape h.fp)), hA.output.trans (hg.output.trans (Foot.output h.fp)), by have := h.size; have := hg.size; have := hA.size; omega, fun i hi hne => ?_⟩, h.bp, fun r hr => ⟨(h.rw r hr).1, (hrow r hr).2.trans (h.rw r hr).2⟩, h.nd, fun g' hg' => ?_, fun x hx => (h.tr x hx).keep hk hm⟩
  · have hsz := h.size
    rw [hA.block i (by omega) (by omega), hg.block i (by omega) (fun e => by have := (hlt.2 i e.symm).1; omega)]
    exact h.fp.block hi hne
  · injection hg' with hg'
    subst hg'
    refine ⟨h1, fun r hr => ⟨(h2 r hr).1, fun e => (hrow r hr).1 (by simpa [Value.ownBlock] using e.symm)⟩, fun e => hbnb (by simpa [Value.ownBlock] using e), ⟨hA.box, ?_, fun x hx => ?_, h4.ok⟩⟩
    · have := hA.own
      rw [treeCells_append, List.length_append, ← hl]
      exact this
    · rcases List.mem_append.1 hx with hx | hx
      · exact (h4.tr x hx).keep hk hm
      · exact (h.tr x (hys x hx)).keep hk hm
theorem St.appended (h : St E M w0 rows (some g) ts st W) {b cap : Nat} {zs : List Value} (ho1 : w1.ownsRow w0.heap.size 25 5 (.slice (some ⟨b, 0, none⟩) (g.xs.length + zs.length / 5) cap) (g.xs.length + zs.length / 5) (treeCells g.xs ++ zs)) (hg : W.grownBy w1 g.v.ownBlock) (hb : g.v.ownBlock = some b ∨ b = W.heap.size)
    {ys : List (Nd × Value)} (hys : ∀ y ∈ ys, y ∈ ts) (hA : AppTo w1 W3 w0.heap.size b g.nb (g.xs.length + zs.length / 5) cap (treeCells g.xs ++ treeCells ys) g.k g.s g.n g.a) (hl : zs.length / 5 = ys.length) :
    St E M w0 rows (some ⟨g.nb, g.k, g.s, g.n, g.a, .slice (some ⟨b, 0, none⟩) (g.xs.length + zs.length / 5) cap, g.xs ++ ys⟩) ts st W3 := by
  have hbx := h.bx.appended ho1 hg hb hys hA hl
  obtain ⟨h1, _, _, h4⟩ := h.bx.gw g rfl
  have hlt := h4.lt
  have hbl := ho1.lt b rfl
  have hk : ∀ i, i < w0.heap.size → W3.heap[i]? = W.heap[i]? := fun i hi => by
    have hsz := h.bx.size
    rw [hA.block i (by omega) (by omega), hg.block i (by omega) (fun e => by have := (hlt.2 i e.symm).1; omega)]
  refine ⟨⟨(hk _ h.bx.bp).trans h.rd.blk, fun i hi => ?_, h.rd.le⟩, hbx, h.tb⟩
  have hlt : M.tb < w0.heap.size := by
    rcases h.tb with h0 | h0
    · omega
    · exact h0
  have e : ∀ o, W3.cell? ⟨M.tb, o, none⟩ = W.cell? ⟨M.tb, o, none⟩ := fun o => World.cell?_of_block (w := W) (hk _ hlt)
  rw [e, e, e]
  exact h.rd.toks i hi
/-- A variable becomes a growing one, its list nil. -/
theorem St.grow0 {nb : Nat} {k n a : Int} {sx : ByteArray} (h : St E M w0 ((nb, #[.int .i64 k, .string sx, .int .i64 n, .int .i64 a, .slice none 0 0], 25) :: rows) none ts st W) (hk : okI k) (hn : okI n) (ha : okI a) (hs : sx.size ≤ 140737488351232) :
    St E M w0 rows (some ⟨nb, k, sx, n, a, .slice none 0 0, []⟩) ts st W := by
  have hm : ∀ b, Mine w0 W ((nb, #[.int .i64 k, .string sx, .int .i64 n, .int .i64 a, .slice none 0 0], 25) :: rows) none b → Mine w0 W rows (some ⟨nb, k, sx, n, a, .slice none 0 0, []⟩) b := fun b hb => ⟨hb.1, hb.2.1, fun r hr => hb.2.2.1 r (List.mem_cons_of_mem _ hr), fun g hg => by
    injection hg with hg
    subst hg
    exact ⟨hb.2.2.1 _ (List.mem_cons_self ..), by simp [Value.ownBlock]⟩⟩
  have h0 := h.bx.rw _ (List.mem_cons_self ..)
  refine ⟨h.rd, ⟨h.bx.fp, h.bx.bp, fun r hr => h.bx.rw r (List.mem_cons_of_mem _ hr), (List.pairwise_cons.1 h.bx.nd).2, fun g hg => ?_, fun x hx => (h.bx.tr x hx).keep (fun _ _ => rfl) hm⟩, h.tb⟩
  injection hg with hg
  subst hg
  exact ⟨h0.1, fun r hr => ⟨fun e => (List.pairwise_cons.1 h.bx.nd).1 r hr e.symm, by simp [Value.ownBlock]⟩, by simp [Value.ownBlock], h0.2, World.ownsRow_nil _ _ _ _, fun x hx => by simp at hx, hk, hn, ha, hs⟩
/-- The growing variable is written no more: its tree. -/
theorem St.grown (h : St E M w0 rows (some g) ts st W) : St E M w0 rows none ((g.nd, .agg #[.int .i64 g.k, .string g.s, .int .i64 g.n, .int .i64 g.a, g.v]) :: ts) st W := by
  obtain ⟨h1, h2, h3, h4⟩ := h.bx.gw g rfl
  have hlt := h4.lt
  have hm : ∀ b, Mine w0 W rows (some g) b → Mine w0 W rows none b := fun b hb => ⟨hb.1, hb.2.1, hb.2.2.1, fun g hg => by cases hg⟩
  refine ⟨h.rd, ⟨h.bx.fp, h.bx.bp, h.bx.rw, h.bx.nd, (fun g hg => by cases hg), fun x hx => ?_⟩, h.tb⟩
  rcases List.mem_cons.1 hx with rfl | hx
  · obtain ⟨A, cap, hv, hc1, hc2⟩ := row_form h4.own
    have hok := h4.ok
    show LiesP W _ g.nd (.agg #[.int .i64 g.k, .string g.s, .int .i64 g.n, .int .i64 g.a, g.v])
    rw [hv]
    rcases Nat.eq_zero_or_pos g.xs.length with h0 | h0
    · have hx0 : g.xs = [] := List.length_eq_zero_iff.1 h0
      unfold Gv.nd
      rw [hx0]
      exact LiesP.leaf hok.1 hok.2.1 hok.2.2.1 hok.2.2.2 hc2
    · have hown := h4.own
      rw [hv] at hown
      obtain ⟨b, hA, hb1, hb2⟩ := row_some hown h0
      subst hA
      have hcs := hown.cells (g := b) rfl
      obtain ⟨cs, T, fz, hcell⟩ : ∃ cs T fz, W.heap[b]? = some (.cells cs T fz) := by
        rcases hown.2 with ⟨e, _⟩ | ⟨g', cap', cur, e, _, hg', _⟩
        · cases e
        · simp only [Value.slice.injEq, Option.some.injEq, Addr.mk.injEq, and_true, true_and] at e
          obtain ⟨rfl, rfl⟩ := e
          exact ⟨_, _, _, hg'⟩
      refine LiesP.node hcell g.xs (fun j u hj => ?_) (fun x hx => (h4.tr x hx).keep (fun _ _ => rfl) hm) ⟨hb1, hb2, fun r hr e => (h2 r hr).2 (by rw [hv, e]; rfl), fun g hg => by cases hg⟩ hok.1 hok.2.1 hok.2.2.1 hok.2.2.2 rfl hc1 hc2
      have := hcs j u hj
      rw [show ((⟨b, 0, none⟩ : Addr).add j) = ⟨b, j, none⟩ by simp [Addr.add]; omega, cell_of_row W b j _ _ _ hcell] at this
      exact this
  · exact (h.bx.tr x hx).keep (fun _ _ => rfl) hm
/-- What the growing variable holds. -/
theorem St.gcells (h : St E M w0 rows (some g) ts st W) : W.cell? ⟨g.nb, 0, none⟩ = some (.int .i64 g.k) ∧ W.cell? ⟨g.nb, 1, none⟩ = some (.string g.s) ∧ W.cell? ⟨g.nb, 2, none⟩ = some (.int .i64 g.n) ∧ W.cell? ⟨g.nb, 3, none⟩ = some (.int .i64 g.a) ∧ W.cell? ⟨g.nb, 4, none⟩ = some g.v ∧ ∀ j, W.frozen? ⟨g.nb, j, none⟩ = false := by
  have h4 := (h.bx.gw g rfl).2.2.2
  exact ⟨cell_of_row W _ 0 _ _ _ h4.box, cell_of_row W _ 1 _ _ _ h4.box, cell_of_row W _ 2 _ _ _ h4.box, cell_of_row W _ 3 _ _ _ h4.box, cell_of_row W _ 4 _ _ _ h4.box, fun j => by simp [World.frozen?, h4.box]⟩
theorem St.gown (h : St E M w0 rows (some g) ts st W) : W.ownsRow w0.heap.size 25 5 g.v g.xs.length (treeCells g.xs) := (h.bx.gw g rfl).2.2.2.own
theorem infoNd : (Tryz.prog.info? 25).map (fun i => (i.zero, i.size, i.bytes)) = some (some (.agg #[.int .i64 0, .string ⟨#[]⟩, .int .i64 0, .int .i64 0, .slice none 0 0]), 5, 64) := by kernel_rfl
theorem newsRow {W : World} {g : Nat} {cs : List Value} {t : TypeId} {fz : Nat × Nat} (h : W.heap[g]? = some (.cells cs.toArray t fz)) : ∀ (j : Nat) u, cs[j]? = some u → W.cell? ((⟨g, 0, none⟩ : Addr).add j) = some u := by
  intro j u hu
  have := cell_of_row W g j _ _ _ h
  rw [show ((⟨g, 0, none⟩ : Addr).add j) = ⟨g, j, none⟩ by simp [Addr.add]; omega, this]
  simpa using hu
theorem zeroOne : ∀ u ∈ [Value.int .i64 0, .string ⟨#[]⟩, .int .i64 0, .int .i64 0, .slice none 0 0], u.oneCell' = true := by
  intro u hu
  simp at hu
  rcases hu with rfl | rfl | rfl | rfl | rfl <;> rfl
/-- What is there behind an append of a placeholder: where the new element lies. -/
theorem St.newElem (h : St E M w0 rows (some g) ts st W) {b cap : Nat} {z0 z1 z2 z3 z4 : Value} {m : Nat} (hm : g.xs.length = m) (ho1 : w1.ownsRow w0.heap.size 25 5 (.slice (some ⟨b, 0, none⟩) (m + 1) cap) (m + 1) (treeCells g.xs ++ [z0, z1, z2, z3, z4])) (hg : W.grownBy w1 g.v.ownBlock) (hb : g.v.ownBlock = some b ∨ b = W.heap.size) :
    (w1.cell? ⟨b, m * 5, none⟩ = some z0 ∧ w1.cell? ⟨b, m * 5 + 1, none⟩ = some z1 ∧ w1.cell? ⟨b, m * 5 + 2, none⟩ = some z2 ∧ w1.cell? ⟨b, m * 5 + 3, none⟩ = some z3 ∧ w1.cell? ⟨b, m * 5 + 4, none⟩ = some z4) ∧ (∀ j, w1.frozen? ⟨b, j, none⟩ = false) ∧ w1.cell? ⟨g.nb, 4, none⟩ = some g.v ∧ (∀ j, w1.frozen? ⟨g.nb, j, none⟩ = false) ∧ b ≠ g.nb ∧
    w1.heap[g.nb]? = some (.cells #[.int .i64 g.k, .string g.s, .int .i64 g.n, .int .i64 g.a, g.v] 25 (0, 0)) ∧ (treeCells g.xs).length = m * 5 := by
  subst hm
  obtain ⟨h1, h2, h3, h4⟩ := h.bx.gw g rfl
  have hlt := h4.lt
  have hbnb : b ≠ g.nb := fun e => by
    rcases hb with hb | hb
    · exact h3 (by rw [hb, e])
    · omega
  have hlen : (treeCells g.xs).length = g.xs.length * 5 := treeCells_length h4.tr
  have hbox : w1.heap[g.nb]? = some (.cells #[.int .i64 g.k, .string g.s, .int .i64 g.n, .int .i64 g.a, g.v] 25 (0, 0)) := (hg.block _ hlt.1 (fun e => h3 e.symm)).trans h4.box
  have hc : ∀ (j : Nat) u, [z0, z1, z2, z3, z4][j]? = some u → w1.cell? ⟨b, g.xs.length * 5 + j, none⟩ = some u := fun j u hj => by
    have := ho1.cells (g := b) rfl (g.xs.length * 5 + j) u (by rw [List.getElem?_append_right (by omega), hlen, Nat.add_sub_cancel_left]; exact hj)
    rw [show ((⟨b, 0, none⟩ : Addr).add (g.xs.length * 5 + j)) = ⟨b, g.xs.length * 5 + j, none⟩ by simp [Addr.add]; omega] at this
    exact this
  have hf : ∀ j, w1.frozen? ⟨b, j, none⟩ = false := fun j => by
    rcases ho1.2 with ⟨e, _⟩ | ⟨g', cap', cur, e, _, hg', _⟩
    · cases e
    · simp only [Value.slice.injEq, Option.some.injEq, Addr.mk.injEq, and_true, true_and] at e
      obtain ⟨rfl, rfl⟩ := e
      simp [World.frozen?, hg']
  exact ⟨⟨hc 0 _ rfl, hc 1 _ rfl, hc 2 _ rfl, hc 3 _ rfl, hc 4 _ rfl⟩, hf, cell_of_row w1 _ 4 _ _ _ hbox, fun j => by simp [World.frozen?, hbox], hbnb, hbox, hlen⟩

theorem St.node {gs : Option Gv} {sg : Nat} {cs : Array Value} {T : TypeId} (h : St E M w0 ((sg, cs, T) :: rows) gs ts st W) (xs : List (Nd × Value)) (hcs : treeCells xs = cs.toList) (hx : ∀ x ∈ xs, x ∈ ts)
    {k : Int} {sx : ByteArray} {n a : Int} (hk : okI k) (hn : okI n) (ha : okI a) (hs : sx.size ≤ 140737488351232) {l : Nat} (hl : l = xs.length) (hl2 : l ≤ 1000000) :
    St E M w0 rows gs ((.mk k sx n a (xs.map (·.1)), .agg #[.int .i64 k, .string sx, .int .i64 n, .int .i64 a, .slice (some ⟨sg, 0, none⟩) l l]) :: ts) st W :=
  ⟨h.rd, h.bx.node xs (fun j u hj => by rw [hcs] at hj; simpa using hj) hx hk hn ha hs hl (Nat.le_refl _) (by omega), h.tb⟩
theorem ok_lit {n : Int} (h1 : decide (-9223372036854775808 ≤ n) = true := by decide) (h2 : decide (n ≤ 9223372036854775807) = true := by decide) : okI n := ⟨of_decide_eq_true h1, of_decide_eq_true h2⟩
theorem St.mono_ts {gs : Option Gv} {ts' : List (Nd × Value)} (h : St E M w0 rows gs ts st W) (hs : ∀ x ∈ ts', x ∈ ts) : St E M w0 rows gs ts' st W := ⟨h.rd, h.bx.sub hs, h.tb⟩

/-- What a growing variable and what lies besides is, for the closures that append to it. -/
def InvG (E : Env) (M : Rm) (w0 : World) (rows : List Rw) (nb : Nat) (a : Nd) (W : World) : Prop := ∃ g : Gv, g.nb = nb ∧ g.nd = a ∧ Bx M w0 rows (some g) [] W ∧ (E.n = 0 ∨ M.tb < w0.heap.size)
theorem keepsG (E : Env) (M : Rm) (w0 : World) (rows : List Rw) (nb : Nat) : Keeps M w0.heap.size (InvG E M w0 rows nb) :=
  ⟨fun _ _ _ hf ⟨g, h1, h2, h3, h4⟩ => ⟨g, h1, h2, h3.go hf, h4⟩, fun _ _ ⟨_, _, _, h3, _⟩ => h3.size⟩
/-- Between two worlds that lie behind the first. -/
theorem foot_of {a b c : World} {bp : Nat} (h : Fp bp a b) (k : Fp bp a c) (hs : b.heap.size ≤ c.heap.size) : Foot a.heap.size (fun k => k = bp) b c :=
  ⟨(Foot.os k).trans (Foot.os h).symm, (Foot.tape k).trans (Foot.tape h).symm, (Foot.output k).trans (Foot.output h).symm, hs, fun _i hi hn => (k.block hi hn).trans (h.block hi hn).symm⟩
end
end Go.Proofs.YtokhfhibdeneeaaGreatDoor

namespace Go.Proofs.YtokhfhibdeneeaaGreatDoor
open Go.RowKit
section
variable {E : Env} {M : Rm} {w0 W w1 : World} {rows : List Rw} {ts : List (Nd × Value)} {st : Rs}
/-- Behind an append to a list of the walk's own: the list's block (the old one, or a new one) is a row. -/
theorem St.appendRow {lb b cap n : Nat} {cur : Array Value} {ys : List Value} (h : St E M w0 ((lb, cur, 25) :: rows) none ts st W) (hg : W.grownBy w1 (some lb))
    (ho : w1.ownsRow w0.heap.size 25 5 (.slice (some ⟨b, 0, none⟩) n cap) n ys) (hb : b = lb ∨ b = W.heap.size) :
    ∃ cur' : Array Value, St E M w0 ((b, cur', 25) :: rows) none ts st w1 ∧ cur'.size = cap * 5 ∧ cur'.toList.take (n * 5) = ys ∧ n ≤ cap ∧ cap ≤ maxLen := by
  obtain ⟨ho1, ho2⟩ := ho
  rcases ho2 with ⟨h0, _⟩ | ⟨g, cap', cur', hv, hbase, hblk, hnc, hcm, hsz, htk⟩
  · cases h0
  cases hv
  have hlb := h.bx.rw _ (List.mem_cons_self ..)
  obtain ⟨n1, n2⟩ := List.pairwise_cons.1 h.bx.nd
  have hlt : ∀ r ∈ rows, r.1 < W.heap.size := fun r hr => (Array.getElem?_eq_some_iff.1 (h.bx.rw r (List.mem_cons_of_mem _ hr)).2).1
  have hbr : ∀ r ∈ rows, b ≠ r.1 := fun r hr e => by
    rcases hb with hb | hb
    · exact n1 r hr (hb.symm.trans e)
    · have := hlt r hr
      omega
  have hrow : ∀ r ∈ rows, w1.heap[r.1]? = W.heap[r.1]? := fun r hr => hg.block _ (hlt r hr) (fun e => n1 r hr (Option.some.inj e).symm)
  have hsz1 := hg.size
  have hm : ∀ i, Mine w0 W ((lb, cur, 25) :: rows) none i → Mine w0 w1 ((b, cur', 25) :: rows) none i := fun i hi => by
    refine ⟨hi.1, by have := hi.2.1; omega, fun r hr => ?_, fun g hg => by cases hg⟩
    rcases List.mem_cons.1 hr with rfl | hr
    · intro e
      have e' : b = i := e
      rcases hb with hb | hb
      · exact hi.2.2.1 _ (List.mem_cons_self ..) (hb.symm.trans e')
      · have := hi.2.1
        omega
    · exact hi.2.2.1 r (List.mem_cons_of_mem _ hr)
  have hk : ∀ i, Mine w0 W ((lb, cur, 25) :: rows) none i → w1.heap[i]? = W.heap[i]? := fun i hi =>
    hg.block i hi.2.1 (fun e => hi.2.2.1 _ (List.mem_cons_self ..) (Option.some.inj e).symm)
  have hlo := h.bx.size
  have hk0 : ∀ i, i < w0.heap.size → w1.heap[i]? = W.heap[i]? := fun i hi => hg.block i (by omega) (fun e => by
    have e' := Option.some.inj e
    have := hlb.1
    simp only at this
    omega)
  have htb : ∀ i, i < E.n → ∀ o, w1.cell? ⟨M.tb, o, none⟩ = W.cell? ⟨M.tb, o, none⟩ := fun i hi o => by
    have hlt : M.tb < w0.heap.size := by
      rcases h.tb with h0 | h0
      · omega
      · exact h0
    exact World.cell?_of_block (w := W) (hk0 _ hlt)
  refine ⟨cur', ⟨⟨(hk0 _ h.bx.bp).trans h.rd.blk, fun i hi => ?_, h.rd.le⟩, ⟨⟨hg.os.trans (Foot.os h.bx.fp), hg.tape.trans (Foot.tape h.bx.fp), hg.output.trans (Foot.output h.bx.fp), by omega, fun i hi hne => ?_⟩, h.bx.bp, fun r hr => ?_, List.pairwise_cons.2 ⟨hbr, n2⟩, (fun g hg => by cases hg), fun x hx => (h.bx.tr x hx).keep hk hm⟩, h.tb⟩, hsz, htk, hnc, hcm⟩
  · rw [htb i hi, htb i hi, htb i hi]
    exact h.rd.toks i hi
  · exact (hk0 i hi).trans (h.bx.fp.block hi hne)
  · rcases List.mem_cons.1 hr with rfl | hr
    · exact ⟨hbase, hblk⟩
    · exact ⟨(h.bx.rw r (List.mem_cons_of_mem _ hr)).1, (hrow r hr).trans (h.bx.rw r (List.mem_cons_of_mem _ hr)).2⟩
/-- Behind the first append to a list that is nil. -/
theorem St.firstRow {b cap n : Nat} {ys : List Value} (h : St E M w0 rows none ts st W) (hg : W.grownBy w1 none)
    (ho : w1.ownsRow w0.heap.size 25 5 (.slice (some ⟨b, 0, none⟩) n cap) n ys) (hb : b = W.heap.size) :
    ∃ cur' : Array Value, St E M w0 ((b, cur', 25) :: rows) none ts st w1 ∧ cur'.size = cap * 5 ∧ cur'.toList.take (n * 5) = ys ∧ n ≤ cap ∧ cap ≤ maxLen := by
  obtain ⟨ho1, ho2⟩ := ho
  rcases ho2 with ⟨h0, _⟩ | ⟨g, cap', cur', hv, hbase, hblk, hnc, hcm, hsz, htk⟩
  · cases h0
  cases hv
  have hlt : ∀ r ∈ rows, r.1 < W.heap.size := fun r hr => (Array.getElem?_eq_some_iff.1 (h.bx.rw r hr).2).1
  have hsz1 := hg.size
  have hm : ∀ i, Mine w0 W rows none i → Mine w0 w1 ((b, cur', 25) :: rows) none i := fun i hi => by
    refine ⟨hi.1, by have := hi.2.1; omega, fun r hr => ?_, fun g hg => by cases hg⟩
    rcases List.mem_cons.1 hr with rfl | hr
    · intro e
      have e' : b = i := e
      have := hi.2.1
      omega
    · exact hi.2.2.1 r hr
  have hk : ∀ i, i < W.heap.size → w1.heap[i]? = W.heap[i]? := fun i hi => hg.block i hi (by simp)
  have hlo := h.bx.size
  have htb : ∀ i, i < E.n → ∀ o, w1.cell? ⟨M.tb, o, none⟩ = W.cell? ⟨M.tb, o, none⟩ := fun i hi o => by
    have hlt : M.tb < w0.heap.size := by
      rcases h.tb with h0 | h0
      · omega
      · exact h0
    exact World.cell?_of_block (w := W) (hk M.tb (Nat.lt_of_lt_of_le hlt hlo))
  refine ⟨cur', ⟨⟨(hk _ (by have := h.bx.bp; omega)).trans h.rd.blk, fun i hi => ?_, h.rd.le⟩, ⟨⟨hg.os.trans (Foot.os h.bx.fp), hg.tape.trans (Foot.tape h.bx.fp), hg.output.trans (Foot.output h.bx.fp), by omega, fun i hi hne => ?_⟩, h.bx.bp, fun r hr => ?_, List.pairwise_cons.2 ⟨fun r hr e => by have := hlt r hr; have e' : b = r.1 := e; omega, h.bx.nd⟩, (fun g hg => by cases hg), fun x hx => (h.bx.tr x hx).keep (fun i hi => hk i hi.2.1) hm⟩, h.tb⟩, hsz, htk, hnc, hcm⟩
  · rw [htb i hi, htb i hi, htb i hi]
    exact h.rd.toks i hi
  · exact (hk i (by omega)).trans (h.bx.fp.block hi hne)
  · rcases List.mem_cons.1 hr with rfl | hr
    · exact ⟨hbase, hblk⟩
    · exact ⟨(h.bx.rw r hr).1, (hk _ (hlt r hr)).trans (h.bx.rw r hr).2⟩
end
end Go.Proofs.YtokhfhibdeneeaaGreatDoor

namespace Go.Proofs.YtokhfhibdeneeaaGreatDoor
open Go.RowKit

theorem sz : (∀ (w : World) (o : Obj), (w.alloc o).heap.size = w.heap.size + 1) ∧ (∀ (w : World) (a : Addr) (v : Value), (w.setCell a v).heap.size = w.heap.size) ∧ ∀ w : World, w.drew.heap.size = w.heap.size := ⟨World.size_alloc, World.size_setCell, World.size_drew⟩
theorem sm : ((false = true) = False) ∧ (∀ {α : Type} (x : α) {β : Type} (s : Rs) (k : α → Rs → Rr β), (Rr.ok x s).bind k = k x s) ∧ (∀ b : Bool, (b && true) = b) ∧ (∀ b : Bool, (true && b) = b) ∧ (∀ b : Bool, (b && false) = false) ∧ (∀ b : Bool, (false && b) = false) ∧ (∀ b : Bool, (b || true) = true) ∧ (∀ b : Bool, (true || b) = true) ∧ (∀ b : Bool, (b || false) = b) ∧ (∀ b : Bool, (false || b) = b) ∧ (!true) = false ∧ (!false) = true :=
  ⟨Bool.false_eq_true, fun x _ s k => Rr.bind_ok x s k, Bool.and_true, Bool.true_and, Bool.and_false, Bool.false_and, Bool.or_true, Bool.true_or, Bool.or_false, Bool.false_or, rfl, rfl⟩
theorem nm : (∀ (a : Act) (d : Tmp) (v : Value), a.put (some d) v = ⟨a.tmps.setIfInBounds d v, a.defers⟩) ∧ (∀ (a : Act) (v : Value), a.put none v = a) ∧ (∀ {α : Type} (l : List α) (i : Nat) (h : i < l.toArray.size), l.toArray[i] = l[i]'(by simpa using h)) ∧ (∀ {α : Type} (a : α) (l : List α) (h : 0 < (a :: l).length), (a :: l)[0] = a) ∧ (∀ {α : Type} (a : α) (l : List α) (i : Nat) (h : i + 1 < (a :: l).length), (a :: l)[i + 1] = l[i]'(by simpa using h)) ∧ (∀ {α : Type} (l : List α) (i : Nat) (a : α), l.toArray.setIfInBounds i a = (l.set i a).toArray) ∧ (∀ {α : Type} (a b : α) (l : List α), (a :: l).set 0 b = b :: l) ∧ ∀ {α : Type} (a b : α) (l : List α) (i : Nat), (a :: l).set (i + 1) b = a :: l.set i b :=
  ⟨fun _ _ _ => rfl, fun _ _ => rfl, fun _ _ _ => rfl, fun _ _ _ => rfl, fun _ _ _ _ => rfl, fun _ _ _ => List.setIfInBounds_toArray .., fun _ _ _ => rfl, fun _ _ _ _ => rfl⟩

section
variable {α : Type} {a b c d e f g x : α} {l : List α}
theorem M0 : a ∈ a :: l := List.mem_cons_self ..
theorem M1 : a ∈ b :: a :: l := .tail _ M0
theorem M2 : a ∈ b :: c :: a :: l := .tail _ M1
theorem M3 : a ∈ b :: c :: d :: a :: l := .tail _ M2
theorem M4 : a ∈ b :: c :: d :: e :: a :: l := .tail _ M3
theorem M5 : a ∈ b :: c :: d :: e :: f :: a :: l := .tail _ M4
theorem M6 : a ∈ b :: c :: d :: e :: f :: g :: a :: l := .tail _ M5
theorem U1 (h : a ∈ l) : a ∈ b :: l := .tail _ h
theorem U2 (h : a ∈ l) : a ∈ b :: c :: l := .tail _ (U1 h)
theorem U3 (h : a ∈ l) : a ∈ b :: c :: d :: l := .tail _ (U2 h)
end

section
variable {E : Env} {M : Rm} {w0 W : World} {rows : List Rw} {gs : Option Gv} {ts : List (Nd × Value)} {s : Rs}
theorem St.a (h : St E M w0 rows gs ts s W) {g : Nat} {cs : Array Value} {t : TypeId} (hm : (g, cs, t) ∈ rows) (j : Nat) {v : Value} (hv : cs[j]? = some v := by rfl) : W.cell? ⟨g, j, none⟩ = some v := h.bx.at_ hm j hv
theorem F1 (h : Hid (St E M w0 rows gs ts s W)) {g : Nat} {v0 : Value} {t : TypeId} (hm : (g, #[v0], t) ∈ rows) : W.cell? ⟨g, 0, none⟩ = some v0 ∧ W.frozen? ⟨g, 0, none⟩ = false := h.out.bx.c1 hm
theorem F3 (h : Hid (St E M w0 rows gs ts s W)) {g : Nat} {v0 v1 v2 : Value} {t : TypeId} (hm : (g, #[v0, v1, v2], t) ∈ rows) :
    W.cell? ⟨g, 0, none⟩ = some v0 ∧ W.cell? ⟨g, 1, none⟩ = some v1 ∧ W.cell? ⟨g, 2, none⟩ = some v2 ∧ W.frozen? ⟨g, 0, none⟩ = false ∧ W.frozen? ⟨g, 1, none⟩ = false ∧ W.frozen? ⟨g, 2, none⟩ = false := h.out.bx.c3 hm
theorem F5 (h : Hid (St E M w0 rows gs ts s W)) {g : Nat} {v0 v1 v2 v3 v4 : Value} {t : TypeId} (hm : (g, #[v0, v1, v2, v3, v4], t) ∈ rows) :
    W.cell? ⟨g, 0, none⟩ = some v0 ∧ W.cell? ⟨g, 1, none⟩ = some v1 ∧ W.cell? ⟨g, 2, none⟩ = some v2 ∧ W.cell? ⟨g, 3, none⟩ = some v3 ∧ W.cell? ⟨g, 4, none⟩ = some v4 ∧ W.frozen? ⟨g, 0, none⟩ = false ∧ W.frozen? ⟨g, 1, none⟩ = false ∧ W.frozen? ⟨g, 2, none⟩ = false ∧ W.frozen? ⟨g, 3, none⟩ = false ∧ W.frozen? ⟨g, 4, none⟩ = false := h.out.bx.c5 hm
theorem J2 {p q : Prop} (a : p) (b : q) : p ∧ q := ⟨a, b⟩
theorem J3 {p q r : Prop} (a : p) (b : q) (c : r) : p ∧ q ∧ r := ⟨a, b, c⟩
theorem J4 {p q r t : Prop} (a : p) (b : q) (c : r) (d : t) : p ∧ q ∧ r ∧ t := ⟨a, b, c, d⟩
theorem J5 {p q r t u : Prop} (a : p) (b : q) (c : r) (d : t) (e : u) : p ∧ q ∧ r ∧ t ∧ u := ⟨a, b, c, d, e⟩
theorem J6 {p q r t u v : Prop} (a : p) (b : q) (c : r) (d : t) (e : u) (f : v) : p ∧ q ∧ r ∧ t ∧ u ∧ v := ⟨a, b, c, d, e, f⟩
theorem St.pz (h : St E M w0 rows gs ts s W) : St E M w0 ((W.heap.size, #[.int .i64 0, .string ⟨#[]⟩, .int .i64 0, .int .i64 0, .slice none 0 0], 25) :: rows) gs ts s (W.alloc (.cells #[.int .i64 0, .string ⟨#[]⟩, .int .i64 0, .int .i64 0, .slice none 0 0] 25)) := h.push _ _
theorem St.pn (h : St E M w0 rows gs ts s W) (k : Int) (t : ByteArray) (n a : Int) (v : Value) : St E M w0 ((W.heap.size, #[.int .i64 k, .string t, .int .i64 n, .int .i64 a, v], 25) :: rows) gs ts s (W.alloc (.cells #[.int .i64 k, .string t, .int .i64 n, .int .i64 a, v] 25)) := h.push _ _
/-- It gives up as what it called gives up. -/
theorem be {α : Type} {V : World → World → α → Value → Prop} {R : Rr α} {w : World} {fn : Func} {tmps : Array Value} (h : Fp M.bp w W) : ∀ (i : Nat) W', R = .bad i → Fp M.bp W W' → bodyPost Tryz.prog fn (Post E M V w R) (.panic (stuckP (E.tok i))) ⟨tmps, []⟩ W' := fun _ _ hi hf => ⟨rfl, bad_end hi (h.trans hf)⟩
/-- A call that reads a node. -/
theorem Post.nd {β : Type} {Q : Ending → World → Prop} {r : Rr Nd} {k : Nd → Rs → Rr β} {R : Rr β} {fn : FuncId} {args : Array Value} (hR : Hid (r.bind k = R)) (hne : Hid (R ≠ .out)) (hc : r ≠ .out → Calls Tryz.prog fn args W (Post E M VNd W r))
    (hbad : ∀ i W', R = .bad i → Fp M.bp W W' → Q (.panicked (stuckP (E.tok i))) W')
    (hok : ∀ κ t n a ks s A cap W', Hid (k (.mk κ t n a ks) s = R) → VNd W W' (.mk κ t n a ks) (.agg #[.int .i64 κ, .string t, .int .i64 n, .int .i64 a, .slice A ks.length cap]) → RdAt E M s W' → Fp M.bp W W' → Q (.returned (.agg #[.int .i64 κ, .string t, .int .i64 n, .int .i64 a, .slice A ks.length cap])) W') : Calls Tryz.prog fn args W Q :=
  Post.use hR hne hc hbad fun x s v W' h1 h2 h3 h4 => by
    obtain ⟨κ, t, n, a, ks⟩ := x
    obtain ⟨A, cap, rfl⟩ := VNd.form h2
    exact hok κ t n a ks s A cap W' h1 h2 h3 h4
/-- Something is put behind the children of the node that grows. -/
theorem apl {ops : Array Oper} {o : Oper} {x : Act} {K : Act → World → Prop} {Q : Exit → Act → World → Prop} {D : Prop} (A B : Nat) {nb : Nat} {k : Int} {sx : ByteArray} {n a : Int} {v : Value} {xs : List (Nd × Value)} (hs : St E M w0 rows (some ⟨nb, k, sx, n, a, v, xs⟩) ts s W)
    {g c : Nat} {news : List Value} {t : TypeId} (hm : (g, news.toArray, t) ∈ rows) (l : Nat) (m : Nat := 1) (hl : xs.length = l := by simp) (hgd : o.guard = none := by rfl) (ho : o.op = .call { callee := .builtin .append, args := #[.tmp A, .tmp B], argTypes := #[23, 23] } := by rfl)
    (hA : x.eval (.tmp A) = v := by rfl) (hB : x.eval (.tmp B) = .slice (some ⟨g, 0, none⟩) m c := by rfl) (hn : news.length = m * 5 := by rfl) (h1 : ∀ u ∈ news, u.oneCell' = true := by (intro u hu; simp only [List.mem_cons, List.not_mem_nil, or_false] at hu; first | (rcases hu with rfl | rfl | rfl | rfl | rfl <;> rfl) | (rcases hu with rfl | rfl | rfl | rfl | rfl | rfl | rfl | rfl | rfl | rfl <;> rfl)))
    (h0 : 0 < m := by decide) (h63 : l + m ≤ maxLen := by (unfold maxLen; omega)) (hby : (l + m) * 64 ≤ 140737488355328 := by omega)
    (h : ∀ g cap w', w'.ownsRow w0.heap.size 25 5 (.slice (some ⟨g, 0, none⟩) (l + m) cap) (l + m) (treeCells xs ++ news) → W.grownBy w' v.ownBlock → (v.ownBlock = some g ∨ g = W.heap.size) → g < w'.heap.size → K (x.put o.dst (.slice (some ⟨g, 0, none⟩) (l + m) cap)) w') :
    if Region.wanted o (yielded ops x.tmps) = true then Oper.wp Tryz.prog o x W K Q else D := by
  obtain ⟨i0, hi0, hz0, hz1, hz2⟩ := info_parts infoNd
  subst hl
  exact step_append_lies _ hgd (.tmp A) (.tmp B) 23 ho w0.heap.size 25 i0 _ 5 64 Tryz.underlying23 hi0 hz0 hz1 hz2 rfl (by decide) _ _ _ hA hs.gown _ m c news hB hn (newsRow (hs.bx.rw _ hm).2) h1 h0 h63 hby hs.bx.size _ rfl h
end

section
variable {P : Program} {ops : Array Oper} {Q : Exit → Act → World → Prop} {md : Region.Mode} {X : List Nat} {S : World → Prop} {fuel : Nat} {listed : Array Bool} {a : Act} {w : World}
theorem tk (i : Nat) {oi : Oper} {v : Value} (hi : ops[i]? = some oi := by rfl)
    (hs : Region.noSelect ops = true := by kernel_rfl) (hf : Region.free md ops listed i = true := by kernel_rfl) (hr : (Region.ready md ops listed).contains i = true := by kernel_rfl) (hX : waits md ops X i = true := by kernel_rfl) (hno : (X.all fun x => listed.getD x false == false) = true := by kernel_rfl)
    (hQ : ∀ c a w, Q (.panic c) (a.put oi.dst v) w → Q (.panic c) a w := by exact fun _ _ _ h => h) (hw : Region.wanted oi (yielded ops a.tmps) = true := by rfl)
    (hv : ∀ w, S w → (execOp a.eval oi).run P w = .ok (.value v) w := by (intro w hSw; (try dsimp only at hSw); (try simp only [nm]); go_simp; try with_reducible rfl)) (hS : S w := by assumption)
    (h : wpAnyG P md ops Q X S fuel (listed.setIfInBounds i true) (a.put oi.dst v) w) : wpAnyG P md ops Q X S (fuel + 1) listed a w :=
  wpAnyG_take hi hs hf hr hX hno hQ (.inl ⟨hw, hv⟩) hS h
theorem rd1 (i : Nat) {o : Oper}
    (h : ∀ K' : Act → World → Prop, Shut (∀ a w, S w → (S w → wpAnyG P md ops Q X S fuel (listed.setIfInBounds i true) a w) → K' a w) → if Region.wanted o (yielded ops a.tmps) = true then Oper.wp P o a w K' Q else K' (a.put o.dst undef) w)
    (ho : ops[i]? = some o := by rfl) (hr : Region.ready md ops listed = [i] := by kernel_rfl) : wpAnyG P md ops Q X S (fuel + 1) listed a w :=
  wpAnyG_ready hr (by simp) (AllReadyG.cons ho h AllReadyG.nil)
theorem rl1 (i : Nat) {o : Oper}
    (h : ∀ K' : Act → World → Prop, Shut (∀ a w, wpAny P md ops Q fuel (listed.setIfInBounds i true) a w → K' a w) → if Region.wanted o (yielded ops a.tmps) = true then Oper.wp P o a w K' Q else K' (a.put o.dst undef) w)
    (ho : ops[i]? = some o := by rfl) (hi : i ∈ X := by decide) (hl : i < listed.size := by decide) (hr : Region.ready md ops listed = [i] := by kernel_rfl) : wpAnyG P md ops Q X S (fuel + 1) listed a w :=
  wpAnyG_ready hr (by simp) (AllReadyG.last ho hi hl h AllReadyG.nil)
theorem tq (i : Nat) {oi : Oper} {v : Value} (hi : ops[i]? = some oi := by rfl)
    (hs : Region.noSelect ops = true := by kernel_rfl) (hf : Region.free md ops listed i = true := by kernel_rfl) (hr : (Region.ready md ops listed).contains i = true := by kernel_rfl)
    (hQ : ∀ c a w, Q (.panic c) (a.put oi.dst v) w → Q (.panic c) a w := by exact fun _ _ _ h => h) (hw : Region.wanted oi (yielded ops a.tmps) = true := by rfl)
    (hv : ∀ w, (execOp a.eval oi).run P w = .ok (.value v) w := by (intro w; (try simp only [nm]); go_simp; try with_reducible rfl))
    (h : wpAny P md ops Q fuel (listed.setIfInBounds i true) (a.put oi.dst v) w) : wpAny P md ops Q (fuel + 1) listed a w :=
  wpAny_take hi hs hf hr hQ (.inl ⟨hw, hv⟩) h
theorem rp1 (i : Nat) {o : Oper}
    (h : ∀ K' : Act → World → Prop, Shut (∀ a w, wpAny P md ops Q fuel (listed.setIfInBounds i true) a w → K' a w) → if Region.wanted o (yielded ops a.tmps) = true then Oper.wp P o a w K' Q else K' (a.put o.dst undef) w)
    (ho : ops[i]? = some o := by rfl) (hr : Region.ready md ops listed = [i] := by kernel_rfl) : wpAny P md ops Q (fuel + 1) listed a w :=
  wpAny_ready' hr (by simp) (allReady_cons ho h allReady_nil)
end
end Go.Proofs.YtokhfhibdeneeaaGreatDoor
