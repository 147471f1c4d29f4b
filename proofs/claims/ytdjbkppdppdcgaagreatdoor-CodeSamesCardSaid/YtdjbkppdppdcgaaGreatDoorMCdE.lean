/- How a program of code lies in memory. A program of code as bytes, in plain form: Encode, Decode. lex.run at every text; lex.wrong; the text 01: lex.number, lex.one, lex.Scan, tree.ints. Whether two programs of code are one. A row that is laid and then written whole. -/
import Derived.Laws.Tables
import Derived.Test.YtdjbkppdppdcgaaGreatDoorMLex1
namespace Go.Proofs.YtdjbkppdppdcgaaGreatDoor
open Go.RowKit

/-- A row of cells that a slice leads to, below B. -/
def RowIs (w : World) (B : Nat) (A : Option Addr) (cs : List Value) : Prop :=
  cs = [] ∨ ∃ g o, A = some ⟨g, o, none⟩ ∧ g < B ∧ ∀ (j : Nat) (v : Value), cs[j]? = some v → w.cell? ⟨g, o + j, none⟩ = some v
theorem RowIs.keep {w w' : World} {B : Nat} {A : Option Addr} {cs : List Value} (h : RowIs w B A cs) (hk : ∀ b, b < B → w'.heap[b]? = w.heap[b]?) : RowIs w' B A cs := by
  rcases h with h | ⟨g, o, hA, hg, hc⟩
  · exact .inl h
  · exact .inr ⟨g, o, hA, hg, fun j v hv => (World.cell?_of_block (w := w) (a := ⟨g, o + j, none⟩) (hk g hg)).trans (hc j v hv)⟩
theorem RowIs.more {w : World} {B B' : Nat} {A : Option Addr} {cs : List Value} (h : RowIs w B A cs) (hB : B ≤ B') : RowIs w B' A cs := by
  rcases h with h | ⟨g, o, hA, hg, hc⟩
  · exact .inl h
  · exact .inr ⟨g, o, hA, Nat.lt_of_lt_of_le hg hB, hc⟩
theorem RowIs.at {w : World} {B : Nat} {A : Option Addr} {cs : List Value} (h : RowIs w B A cs) (hne : 0 < cs.length) : ∃ g o, A = some ⟨g, o, none⟩ ∧ g < B ∧ ∀ (j : Nat) (v : Value), cs[j]? = some v → w.cell? ⟨g, o + j, none⟩ = some v := by
  rcases h with h | h
  · rw [h] at hne; exact absurd hne (Nat.lt_irrefl 0)
  · exact h
theorem flat_len {α : Type} {n : Nat} {f : α → List Value} (hf : ∀ x, (f x).length = n) : ∀ l : List α, (l.flatMap f).length = l.length * n
  | [] => by simp
  | x :: r => by rw [List.flatMap_cons, List.length_append, hf, flat_len hf r, List.length_cons, Nat.succ_mul, Nat.add_comm]
theorem flat_at {α : Type} {n : Nat} {f : α → List Value} (hf : ∀ x, (f x).length = n) : ∀ (l : List α) (i : Nat) (x : α), l[i]? = some x → ∀ k, k < n → (l.flatMap f)[i * n + k]? = (f x)[k]?
  | [], i, x, h, _, _ => by simp at h
  | y :: r, 0, x, h, k, hk => by
    simp only [List.getElem?_cons_zero, Option.some.injEq] at h
    subst h
    rw [List.flatMap_cons, List.getElem?_append_left (by rw [hf]; omega), Nat.zero_mul, Nat.zero_add]
  | y :: r, i + 1, x, h, k, hk => by
    rw [List.getElem?_cons_succ] at h
    rw [List.flatMap_cons, List.getElem?_append_right (by rw [hf, Nat.succ_mul]; omega), hf, ← flat_at hf r i x h k hk]
    congr 1
    rw [Nat.succ_mul]; omega

/-- A row's cells as a walk spells them. -/
theorem row5 {w : World} {g o n : Nat} {a b c d e : Value} {cs : List Value} (h : ∀ (j : Nat) (v : Value), cs[j]? = some v → w.cell? ⟨g, o + j, none⟩ = some v) (h0 : ∀ k, k < 5 → cs[n + k]? = [a, b, c, d, e][k]?) :
    w.cell? ⟨g, o + n, none⟩ = some a ∧ w.cell? ⟨g, o + n + 1, none⟩ = some b ∧ w.cell? ⟨g, o + n + 2, none⟩ = some c ∧ w.cell? ⟨g, o + n + 3, none⟩ = some d ∧ w.cell? ⟨g, o + n + 4, none⟩ = some e :=
  ⟨h n a (h0 0 (by decide)), h (n + 1) b (h0 1 (by decide)), h (n + 2) c (h0 2 (by decide)), h (n + 3) d (h0 3 (by decide)), h (n + 4) e (h0 4 (by decide))⟩
theorem row6 {w : World} {g o n : Nat} {a b c d e f : Value} {cs : List Value} (h : ∀ (j : Nat) (v : Value), cs[j]? = some v → w.cell? ⟨g, o + j, none⟩ = some v) (h0 : ∀ k, k < 6 → cs[n + k]? = [a, b, c, d, e, f][k]?) :
    w.cell? ⟨g, o + n, none⟩ = some a ∧ w.cell? ⟨g, o + n + 1, none⟩ = some b ∧ w.cell? ⟨g, o + n + 2, none⟩ = some c ∧ w.cell? ⟨g, o + n + 3, none⟩ = some d ∧ w.cell? ⟨g, o + n + 4, none⟩ = some e ∧ w.cell? ⟨g, o + n + 5, none⟩ = some f :=
  ⟨h n a (h0 0 (by decide)), h (n + 1) b (h0 1 (by decide)), h (n + 2) c (h0 2 (by decide)), h (n + 3) d (h0 3 (by decide)), h (n + 4) e (h0 4 (by decide)), h (n + 5) f (h0 5 (by decide))⟩

structure Fv where
  ta : Option Addr
  tc : Nat
  ca : Option Addr
  cc : Nat
def insCells (x : Ci) : List Value := [.int .i64 x.op, .int .i64 x.a, .int .i64 x.b, .string x.text, .int .i64 x.at_]
def fnCells (f : Cf × Fv) : List Value := [.string f.1.name, .int .i64 f.1.params, .int .i64 f.1.slots, .slice f.2.ta f.1.taken.length f.2.tc, .int .i64 f.1.around, .slice f.2.ca f.1.code.length f.2.cc]
theorem ins_len (x : Ci) : (insCells x).length = 5 := rfl
theorem fn_len (x : Cf × Fv) : (fnCells x).length = 6 := rfl

theorem fn_at {w : World} {g o : Nat} {xs : List (Cf × Fv)} (h : ∀ (j : Nat) (v : Value), (xs.flatMap fnCells)[j]? = some v → w.cell? ⟨g, o + j, none⟩ = some v) {i : Nat} {f : Cf} {x : Fv} (hi : xs[i]? = some (f, x)) :
    w.cell? ⟨g, o + i * 6, none⟩ = some (.string f.name) ∧ w.cell? ⟨g, o + i * 6 + 1, none⟩ = some (.int .i64 f.params) ∧ w.cell? ⟨g, o + i * 6 + 2, none⟩ = some (.int .i64 f.slots) ∧ w.cell? ⟨g, o + i * 6 + 3, none⟩ = some (.slice x.ta f.taken.length x.tc) ∧
      w.cell? ⟨g, o + i * 6 + 4, none⟩ = some (.int .i64 f.around) ∧ w.cell? ⟨g, o + i * 6 + 5, none⟩ = some (.slice x.ca f.code.length x.cc) :=
  row6 h fun k hk => flat_at fn_len xs i (f, x) hi k hk
theorem ins_at {w : World} {g o : Nat} {xs : List Ci} (h : ∀ (j : Nat) (v : Value), (xs.flatMap insCells)[j]? = some v → w.cell? ⟨g, o + j, none⟩ = some v) {i : Nat} {x : Ci} (hi : xs[i]? = some x) :
    w.cell? ⟨g, o + i * 5, none⟩ = some (.int .i64 x.op) ∧ w.cell? ⟨g, o + i * 5 + 1, none⟩ = some (.int .i64 x.a) ∧ w.cell? ⟨g, o + i * 5 + 2, none⟩ = some (.int .i64 x.b) ∧ w.cell? ⟨g, o + i * 5 + 3, none⟩ = some (.string x.text) ∧ w.cell? ⟨g, o + i * 5 + 4, none⟩ = some (.int .i64 x.at_) :=
  row5 h fun k hk => flat_at ins_len xs i x hi k hk

def CiOk (x : Ci) : Prop := okI x.op ∧ okI x.a ∧ okI x.b ∧ okI x.at_ ∧ x.text.size ≤ 140737488351232
def CfOk (f : Cf) : Prop := f.name.size ≤ 140737488351232 ∧ okI f.params ∧ okI f.slots ∧ okI f.around ∧ f.taken.length ≤ 140737488351232 ∧ f.code.length ≤ 140737488351232 ∧ (∀ t ∈ f.taken, okI t) ∧ ∀ x ∈ f.code, CiOk x
def CpOk (p : Cp) : Prop := p.funcs.length ≤ 140737488351232 ∧ p.globals.length ≤ 140737488351232 ∧ (∀ f ∈ p.funcs, CfOk f) ∧ ∀ s ∈ p.globals, s.size ≤ 140737488351232
/-- A function's own rows. -/
def LiesF (w : World) (B : Nat) (x : Cf × Fv) : Prop := RowIs w B x.2.ta (x.1.taken.map (Value.int .i64)) ∧ RowIs w B x.2.ca (x.1.code.flatMap insCells) ∧ x.1.taken.length ≤ x.2.tc ∧ x.1.code.length ≤ x.2.cc
def LiesC (w : World) (B : Nat) (p : Cp) (v : Value) : Prop := ∃ (fa : Option Addr) (fc : Nat) (ga : Option Addr) (gc : Nat) (xs : List (Cf × Fv)), xs.map Prod.fst = p.funcs ∧
  v = .agg #[.slice fa p.funcs.length fc, .slice ga p.globals.length gc] ∧ RowIs w B fa (xs.flatMap fnCells) ∧ RowIs w B ga (p.globals.map Value.string) ∧ p.funcs.length ≤ fc ∧ p.globals.length ≤ gc ∧ ∀ x ∈ xs, LiesF w B x
theorem LiesF.keep {w w' : World} {B : Nat} {x : Cf × Fv} (h : LiesF w B x) (hk : ∀ b, b < B → w'.heap[b]? = w.heap[b]?) : LiesF w' B x := ⟨h.1.keep hk, h.2.1.keep hk, h.2.2⟩
theorem LiesC.keep {w w' : World} {B : Nat} {p : Cp} {v : Value} (h : LiesC w B p v) (hk : ∀ b, b < B → w'.heap[b]? = w.heap[b]?) : LiesC w' B p v := by
  obtain ⟨fa, fc, ga, gc, xs, h1, h2, h3, h4, h5, h6, h7⟩ := h
  exact ⟨fa, fc, ga, gc, xs, h1, h2, h3.keep hk, h4.keep hk, h5, h6, fun x hx => (h7 x hx).keep hk⟩
end Go.Proofs.YtdjbkppdppdcgaaGreatDoor

namespace Go.Proofs.YtdjbkppdppdcgaaGreatDoor

def foldN (n : Int) : Nat := if 0 ≤ n then (2 * n).toNat else (-2 * n - 1).toNat
def unfoldN (u : Nat) : Int := if u % 2 = 0 then (u / 2 : Nat) else -((u / 2 : Nat) : Int) - 1
/-- By digits of base 128, the lowest first. -/
def numU : Nat → Nat → List UInt8
  | 0, u => [UInt8.ofNat u]
  | f + 1, u => if 127 < u then UInt8.ofNat (u % 128 + 128) :: numU f (u / 128) else [UInt8.ofNat u]
def numB (n : Int) : List UInt8 := numU 10 (foldN n)
def textB (s : List UInt8) : List UInt8 := numB s.length ++ s
def instB (x : Ci) : List UInt8 := numB x.op ++ (numB x.a ++ (numB x.b ++ (textB x.text.data.toList ++ numB x.at_)))
def funcB (f : Cf) : List UInt8 := textB f.name.data.toList ++ (numB f.params ++ (numB f.slots ++ (numB f.taken.length ++ (f.taken.flatMap numB ++ (numB f.around ++ (numB f.code.length ++ f.code.flatMap instB))))))
def encodeB (p : Cp) : List UInt8 := [71, 67, 48, 49] ++ (numB p.globals.length ++ (p.globals.flatMap (fun s => textB s.data.toList) ++ (numB p.funcs.length ++ p.funcs.flatMap funcB)))

/-- A reader of bytes: the place, where something is wrong. -/
structure Drd where
  at_ : Nat
  bad : Option Nat
def Drd.fail (r : Drd) (i : Nat) : Drd := match r.bad with
  | none => { r with bad := some i }
  | some _ => r
def numLoop (b : List UInt8) (frm : Nat) : Nat → Nat → Nat → Drd → Nat × Drd
  | 0, _, _, r => (0, r)
  | f + 1, k, u, r => match b[r.at_]? with
    | none => (0, r.fail b.length)
    | some c =>
      let r1 : Drd := { r with at_ := r.at_ + 1 }
      if (k = 9 ∧ 1 < c.toNat) ∨ (0 < k ∧ c.toNat = 0) then (0, r1.fail frm)
      else if c.toNat < 128 then (u + c.toNat % 128 * 2 ^ (7 * k), r1)
      else numLoop b frm f (k + 1) (u + c.toNat % 128 * 2 ^ (7 * k)) r1
def numD (b : List UInt8) (r : Drd) : Int × Drd := match r.bad with
  | some _ => (0, r)
  | none => let x := numLoop b r.at_ 11 0 0 r; if x.2.bad = none then (unfoldN x.1, x.2) else (0, x.2)
def manyD (b : List UInt8) (r : Drd) : Int × Drd :=
  let x := numD b r
  if x.2.bad = none ∧ (x.1 < 0 ∨ ((b.length : Int) - x.2.at_) < x.1) then (0, x.2.fail r.at_) else x
def textD (b : List UInt8) (r : Drd) : List UInt8 × Drd :=
  let x := manyD b r
  if x.2.bad = none then ((b.drop x.2.at_).take x.1.toNat, { x.2 with at_ := x.2.at_ + x.1.toNat }) else ([], x.2)
/-- So many things, one behind the other; where one is wrong it is the last. -/
def rowD {α : Type} (g : Drd → α × Drd) : Nat → Drd → List α × Drd
  | 0, r => ([], r)
  | n + 1, r => if r.bad = none then let x := g r; let y := rowD g n x.2; (x.1 :: y.1, y.2) else ([], r)
def instD (b : List UInt8) (r : Drd) : Ci × Drd :=
  let o := numD b r
  let x := numD b o.2
  let y := numD b x.2
  let t := textD b y.2
  let p := numD b t.2
  (⟨o.1, x.1, y.1, ⟨⟨t.1⟩⟩, p.1⟩, p.2)
def funcD (b : List UInt8) (r : Drd) : Cf × Drd :=
  let n := textD b r
  let p := numD b n.2
  let s := numD b p.2
  let m := manyD b s.2
  let t := rowD (numD b) m.1.toNat m.2
  let a := numD b t.2
  let c := manyD b a.2
  let l := rowD (instD b) c.1.toNat c.2
  (⟨⟨⟨n.1⟩⟩, p.1, s.1, t.1, a.1, l.1⟩, l.2)
end Go.Proofs.YtdjbkppdppdcgaaGreatDoor

namespace Go.Proofs.YtdjbkppdppdcgaaGreatDoor
open Go.RowKit

end Go.Proofs.YtdjbkppdppdcgaaGreatDoor

namespace Go.Proofs.YtdjbkppdppdcgaaGreatDoor

def sameI (x y : Ci) : Bool := x.op == y.op && (x.a == y.a && (x.b == y.b && (decide (x.text = y.text) && x.at_ == y.at_)))
def sameIs : List Ci → List Ci → Bool
  | [], [] => true
  | x :: l, y :: r => sameI x y && sameIs l r
  | _, _ => false
def sameF (x y : Cf) : Bool := decide (x.name = y.name) && (x.params == y.params && (x.slots == y.slots && (x.around == y.around && (x.taken == y.taken && sameIs x.code y.code))))
def sameFs : List Cf → List Cf → Bool
  | [], [] => true
  | x :: l, y :: r => sameF x y && sameFs l r
  | _, _ => false
def sameC (p q : Cp) : Bool := decide (p.globals = q.globals) && sameFs p.funcs q.funcs
theorem sameI_iff {x y : Ci} : sameI x y = true ↔ x = y := by
  cases x; cases y
  simp [sameI]
theorem sameIs_iff : ∀ {l r : List Ci}, sameIs l r = true ↔ l = r
  | [], [] => by simp [sameIs]
  | [], _ :: _ => by simp [sameIs]
  | _ :: _, [] => by simp [sameIs]
  | x :: l, y :: r => by rw [sameIs, Bool.and_eq_true, sameI_iff, sameIs_iff, List.cons.injEq]
theorem sameF_iff {x y : Cf} : sameF x y = true ↔ x = y := by
  cases x; cases y
  simp only [sameF, Bool.and_eq_true, decide_eq_true_eq, beq_iff_eq, sameIs_iff, Cf.mk.injEq]
  constructor
  · rintro ⟨a, b, c, d, e, f⟩; exact ⟨a, b, c, e, d, f⟩
  · rintro ⟨a, b, c, d, e, f⟩; exact ⟨a, b, c, e, d, f⟩
theorem sameFs_iff : ∀ {l r : List Cf}, sameFs l r = true ↔ l = r
  | [], [] => by simp [sameFs]
  | [], _ :: _ => by simp [sameFs]
  | _ :: _, [] => by simp [sameFs]
  | x :: l, y :: r => by rw [sameFs, Bool.and_eq_true, sameF_iff, sameFs_iff, List.cons.injEq]
theorem sameC_iff {p q : Cp} : sameC p q = true ↔ p = q := by
  cases p; cases q
  simp [sameC, sameFs_iff, and_comm]
theorem sameC_self (p : Cp) : sameC p p = true := sameC_iff.2 rfl
theorem sameC_comm (p q : Cp) : sameC p q = sameC q p := by
  rw [Bool.eq_iff_iff, sameC_iff, sameC_iff]
  exact eq_comm
end Go.Proofs.YtdjbkppdppdcgaaGreatDoor

namespace Go.Proofs.YtdjbkppdppdcgaaGreatDoor
open Go.RowKit

theorem setRow_facts (w : World) (cs Z T : Array Value) (t0 t : TypeId) (W2 : World) (h : ((w.alloc (.cells cs t0)).alloc (.cells Z t)).setRow (w.heap.size + 1) T = W2) :
    W2.heap.size = w.heap.size + 2 ∧ W2.heap[w.heap.size + 1]? = some (.cells T t (0, 0)) ∧ W2.heap[w.heap.size]? = some (.cells cs t0 (0, 0)) ∧ Below w.heap.size w W2 := by
  have hg := heap_alloc_new (w.alloc (.cells cs t0)) (.cells Z t)
  rw [World.size_alloc] at hg
  have hk : ∀ b, b ≠ w.heap.size + 1 → W2.heap[b]? = ((w.alloc (.cells cs t0)).alloc (.cells Z t)).heap[b]? := by
    intro b hb
    rw [← h]
    simp only [World.setRow, Array.getElem?_modify]
    rw [if_neg (Ne.symm hb)]
  have hb2 := ((Below.refl w.heap.size w).alloc (Nat.le_refl _) (.cells cs t0)).alloc (by rw [World.size_alloc]; omega) (.cells Z t)
  have hs : W2.heap.size = w.heap.size + 2 := by
    rw [← h]
    show (Array.modify _ _ _).size = _
    rw [Array.size_modify, World.size_alloc, World.size_alloc]
  refine ⟨hs, ?_, ?_, ?_⟩
  · rw [← h]; exact setRow_heap _ _ _ _ _ _ hg
  · rw [hk _ (by omega)]
    have h1 := ((Below.refl (w.heap.size + 1) (w.alloc (.cells cs t0))).alloc (by rw [World.size_alloc]; exact Nat.le_refl _) (.cells Z t)).block w.heap.size (by omega)
    rw [h1]
    exact heap_alloc_new w (.cells cs t0)
  · refine ⟨?_, ?_, ?_, by omega, fun k hk2 => ?_⟩
    · rw [← h]; exact hb2.os
    · rw [← h]; exact hb2.tape
    · rw [← h]; exact hb2.output
    · rw [hk k (by omega)]; exact hb2.block k hk2
end Go.Proofs.YtdjbkppdppdcgaaGreatDoor
