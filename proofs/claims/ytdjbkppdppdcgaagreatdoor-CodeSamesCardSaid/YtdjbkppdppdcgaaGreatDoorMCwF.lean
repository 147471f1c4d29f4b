/- A frame: every block below a bound but some lies as it lay. The printer: its strings.Builder (copyCheck, WriteString, Len, String); put. Stacks in memory: one node for each stack that was come to, the nodes and the stacks one to one. -/
import Derived.Lib.AppendStr
import Derived.Lib.OthersKept
import Derived.Lib.Builder
import Derived.Lib.UnsafeStr
import Derived.Test.YtdjbkppdppdcgaaGreatDoorMCdE
import Derived.Test.YtdjbkppdppdcgaaGreatDoorMLex1
namespace Go.Proofs.YtdjbkppdppdcgaaGreatDoor
open Go.RowKit

/-- Every block below B that is not one of g's lies as it lay. -/
structure Foot (B : Nat) (g : Nat → Prop) (w w' : World) : Prop where
  os : w'.os = w.os
  tape : w'.tape = w.tape
  output : w'.output = w.output
  size : w.heap.size ≤ w'.heap.size
  block : ∀ k, k < B → ¬ g k → w'.heap[k]? = w.heap[k]?

theorem Foot.refl (B : Nat) (g : Nat → Prop) (w : World) : Foot B g w w := ⟨rfl, rfl, rfl, Nat.le_refl _, fun _ _ _ => rfl⟩
theorem Foot.trans {B : Nat} {g : Nat → Prop} {a b c : World} (h : Foot B g a b) (k : Foot B g b c) : Foot B g a c :=
  ⟨k.os.trans h.os, k.tape.trans h.tape, k.output.trans h.output, Nat.le_trans h.size k.size, fun i hi hg => (k.block i hi hg).trans (h.block i hi hg)⟩
theorem Foot.mono {B B' : Nat} {g g' : Nat → Prop} {a b : World} (h : Foot B g a b) (hB : B' ≤ B) (hg : ∀ k, k < B' → g k → g' k) : Foot B' g' a b := ⟨h.os, h.tape, h.output, h.size, fun i hi hn => h.block i (by omega) (fun e => hn (hg i hi e))⟩
theorem Foot.of {B : Nat} {g : Nat → Prop} {a b : World} (h : Below B a b) : Foot B g a b := ⟨h.os, h.tape, h.output, h.size, fun i hi _ => h.block i hi⟩
theorem Foot.to {B C : Nat} {g : Nat → Prop} {a b : World} (h : Foot B g a b) (hC : C ≤ B) (hg : ∀ k, g k → C ≤ k) : Below C a b := ⟨h.os, h.tape, h.output, h.size, fun i hi => h.block i (by omega) (fun e => by have := hg i e; omega)⟩
theorem Foot.set {B : Nat} {g : Nat → Prop} {a b : World} (h : Foot B g a b) {p : Addr} (hp : B ≤ p.block ∨ g p.block) (v : Value) : Foot B g a (b.setCell p v) :=
  ⟨h.os, h.tape, h.output, by simpa using h.size, fun k hk hg => (Below.heap_setCell b p v k (fun e => by subst e; exact hp.elim (fun h => by omega) hg)).trans (h.block k hk hg)⟩
theorem Foot.alloc {B : Nat} {g : Nat → Prop} {a b : World} (h : Foot B g a b) (hB : B ≤ b.heap.size) (o : Obj) : Foot B g a (b.alloc o) :=
  ⟨h.os, h.tape, h.output, by have := h.size; simp; omega, fun k hk hg => (Below.heap_alloc b o k (by omega)).trans (h.block k hk hg)⟩
theorem Foot.grown {B : Nat} {g : Nat → Prop} {a b c : World} {row : Option Nat} (h : Foot B g a b) (hg : b.grownBy c row) (hB : B ≤ b.heap.size) (hr : ∀ k, row = some k → B ≤ k) : Foot B g a c :=
  ⟨hg.os.trans h.os, hg.tape.trans h.tape, hg.output.trans h.output, Nat.le_trans h.size hg.size, fun k hk hne => (hg.block k (by omega) (fun e => by have := hr k e.symm; omega)).trans (h.block k hk hne)⟩
theorem Foot.cell {B : Nat} {g : Nat → Prop} {w w' : World} (h : Foot B g w w') {p : Addr} (hp : p.block < B) (hne : ¬ g p.block) : w'.cell? p = w.cell? p := World.cell?_of_block (w := w) (h.block p.block hp hne)
end Go.Proofs.YtdjbkppdppdcgaaGreatDoor

namespace Go.Proofs.YtdjbkppdppdcgaaGreatDoor
open Go.RowKit

theorem byteInfo : (Tryz.prog.info? 5).map (fun i => (i.zero, i.size, i.bytes)) = some (some (.int .u8 0), 1, 1) := by kernel_rfl
/-- What printing keeps. -/
structure PF (bp : Nat) (w w' : World) : Prop where
  below : Below bp w w'
  others : Lib.OthersKept 5 (some bp) w w'
theorem PF.refl (bp : Nat) (w : World) : PF bp w w := ⟨Below.refl _ _, Lib.OthersKept.refl _ _ _⟩
theorem PF.trans {bp : Nat} {a b c : World} (h : PF bp a b) (k : PF bp b c) : PF bp a c := ⟨h.below.trans k.below, h.others.trans k.others⟩
theorem PF.set {bp : Nat} {a b : World} (h : PF bp a b) (i : Nat) (v : Value) : PF bp a (b.setCell ⟨bp, i, none⟩ v) := ⟨h.below.setCell (p := ⟨bp, i, none⟩) (Nat.le_refl _) v, h.others.setCell ⟨bp, i, none⟩ rfl v⟩
theorem PF.alloc {bp : Nat} {a b : World} (h : PF bp a b) (hb : bp ≤ b.heap.size) (o : Obj) : PF bp a (b.alloc o) := ⟨h.below.alloc hb o, h.others.alloc o⟩
theorem PF.drew {bp : Nat} {a b : World} (h : PF bp a b) : PF bp a b.drew := ⟨h.below.drew, h.others.drew⟩
theorem PF.row {bp k : Nat} {a b : World} (h : PF bp a b) {cs : Array Value} {T : TypeId} {fr : Nat × Nat} (hk : a.heap[k]? = some (.cells cs T fr)) (hne : k ≠ bp) (hT : T ≠ 5) : b.heap[k]? = some (.cells cs T fr) :=
  h.others k _ hk (fun e => hne (Option.some.inj e)) (fun c fz e => hT (by cases e; rfl))

end Go.Proofs.YtdjbkppdppdcgaaGreatDoor

namespace Go.Proofs.YtdjbkppdppdcgaaGreatDoor
open Go.RowKit

abbrev Tab := List (Nat × List UInt8)
def topOf : List UInt8 → Int
  | [] => 0
  | c :: _ => c.toNat
def belowOf (T : Tab) : List UInt8 → Value → Prop
  | [], v => v = .pointer none
  | _ :: r, v => ∃ b, v = .pointer (some ⟨b, 0, none⟩) ∧ (b, r) ∈ T
def OnIs (T : Tab) (s : List UInt8) (c : UInt8) (v : Value) : Prop := (v = .pointer none ∧ ∀ b, (b, c :: s) ∉ T) ∨ ∃ b, v = .pointer (some ⟨b, 0, none⟩) ∧ (b, c :: s) ∈ T
def NodeAt (ty : TypeId) (T : Tab) (w : World) (b : Nat) (s : List UInt8) : Prop := ∃ bl o0 o1 o2, w.heap[b]? = some (.cells #[.int .u8 (topOf s), bl, .int .i64 s.length, o0, o1, o2] ty (0, 0)) ∧ belowOf T s bl ∧ OnIs T s 118 o0 ∧ OnIs T s 112 o1 ∧ OnIs T s 116 o2
structure Stk (ty : TypeId) (w : World) (B : Nat) (T : Tab) : Prop where
  node : ∀ b s, (b, s) ∈ T → B ≤ b ∧ b < w.heap.size ∧ NodeAt ty T w b s
  one : ∀ b b' s, (b, s) ∈ T → (b', s) ∈ T → b = b'
  same : ∀ b s s', (b, s) ∈ T → (b, s') ∈ T → s = s'
section
variable {ty : TypeId} {w w' : World} {B : Nat} {T : Tab}
theorem Stk.keep (h : Stk ty w B T) (hk : ∀ b s, (b, s) ∈ T → w'.heap[b]? = w.heap[b]?) : Stk ty w' B T := by
  refine ⟨fun b s hb => ?_, h.one, h.same⟩
  obtain ⟨h1, h2, bl, o0, o1, o2, h3, h4⟩ := h.node b s hb
  have e := (hk b s hb).trans h3
  refine ⟨h1, ?_, bl, o0, o1, o2, e, h4⟩
  rcases Nat.lt_or_ge b w'.heap.size with hlt | hge
  · exact hlt
  · rw [Array.getElem?_eq_none (by exact hge)] at e; cases e
theorem Stk.down (h : Stk ty w B T) {b : Nat} {c : UInt8} {s : List UInt8} (hb : (b, c :: s) ∈ T) : ∃ b', (b', s) ∈ T := by
  obtain ⟨_, _, _, _, _, _, _, ⟨b', _, hb'⟩, _⟩ := h.node b _ hb
  exact ⟨b', hb'⟩
theorem cons_ne (c : UInt8) (s : List UInt8) : c :: s ≠ s := fun e => by
  have := congrArg List.length e
  simp at this
theorem OnIs.other {s s' : List UInt8} {c c' : UInt8} {v : Value} {g : Nat} (h : OnIs T s' c' v) (hne : c' :: s' ≠ c :: s) : OnIs ((g, c :: s) :: T) s' c' v := by
  rcases h with ⟨h1, h2⟩ | ⟨b, h1, h2⟩
  · refine .inl ⟨h1, fun b hb => ?_⟩
    rcases List.mem_cons.1 hb with e | hb
    · injection e with _ e; exact hne e
    · exact h2 b hb
  · exact .inr ⟨b, h1, .tail _ h2⟩
theorem belowOf.more {s : List UInt8} {v : Value} {x : Nat × List UInt8} (h : belowOf T s v) : belowOf (x :: T) s v := by
  cases s with
  | nil => exact h
  | cons c r => obtain ⟨b, h1, h2⟩ := h; exact ⟨b, h1, .tail _ h2⟩
theorem Stk.add (h : Stk ty w B T) {b g : Nat} {c : UInt8} {s : List UInt8} (hb : (b, s) ∈ T) (hno : ∀ b', (b', c :: s) ∉ T) (hg : ∀ s', (g, s') ∉ T) (hB : B ≤ g) (hsz : g < w'.heap.size)
    (hnew : w'.heap[g]? = some (.cells #[.int .u8 c.toNat, .pointer (some ⟨b, 0, none⟩), .int .i64 (s.length + 1 : Nat), .pointer none, .pointer none, .pointer none] ty (0, 0)))
    (hold : ∃ bl o0 o1 o2, w.heap[b]? = some (.cells #[.int .u8 (topOf s), bl, .int .i64 s.length, o0, o1, o2] ty (0, 0)) ∧
      ((c = 118 ∧ w'.heap[b]? = some (.cells #[.int .u8 (topOf s), bl, .int .i64 s.length, .pointer (some ⟨g, 0, none⟩), o1, o2] ty (0, 0))) ∨
       (c = 112 ∧ w'.heap[b]? = some (.cells #[.int .u8 (topOf s), bl, .int .i64 s.length, o0, .pointer (some ⟨g, 0, none⟩), o2] ty (0, 0))) ∨
       (c = 116 ∧ w'.heap[b]? = some (.cells #[.int .u8 (topOf s), bl, .int .i64 s.length, o0, o1, .pointer (some ⟨g, 0, none⟩)] ty (0, 0)))))
    (hrest : ∀ b' s', (b', s') ∈ T → b' ≠ b → w'.heap[b']? = w.heap[b']?) : Stk ty w' B ((g, c :: s) :: T) := by
  have hin : (g, c :: s) ∈ (g, c :: s) :: T := List.mem_cons_self ..
  refine ⟨fun b' s' hb' => ?_, fun b1 b2 s' h1 h2 => ?_, fun b1 s1 s2 h1 h2 => ?_⟩
  · rcases List.mem_cons.1 hb' with e | hm
    all_goals clear hb'
    · injection e with e1 e2
      subst e1; subst e2
      refine ⟨hB, hsz, _, _, _, _, hnew, ⟨b, rfl, .tail _ hb⟩, ?_, ?_, ?_⟩ <;>
      · refine .inl ⟨rfl, fun b2 h2 => ?_⟩
        rcases List.mem_cons.1 h2 with e | h2
        · injection e with _ e; exact cons_ne _ _ e
        · obtain ⟨b3, h3⟩ := h.down h2; exact hno b3 h3
    · by_cases hbb : b' = b
      · subst hbb
        obtain rfl := h.same _ _ _ hm hb
        obtain ⟨h1, h2, bl, o0, o1, o2, h3, h4, h5, h6, h7⟩ := h.node _ _ hm
        obtain ⟨bl', o0', o1', o2', k0, k1⟩ := hold
        rw [h3] at k0
        injection k0 with k0
        injection k0 with k0 _ _
        simp only [Array.mk.injEq, List.cons.injEq, true_and, and_true] at k0
        obtain ⟨rfl, rfl, rfl, rfl⟩ := k0
        have hlt : b' < w'.heap.size := by
          rcases Nat.lt_or_ge b' w'.heap.size with hlt | hge
          · exact hlt
          · exfalso
            rcases k1 with ⟨_, k⟩ | ⟨_, k⟩ | ⟨_, k⟩ <;>
            · rw [Array.getElem?_eq_none (by exact hge)] at k; cases k
        refine ⟨h1, hlt, ?_⟩
        rcases k1 with ⟨rfl, k⟩ | ⟨rfl, k⟩ | ⟨rfl, k⟩
        · exact ⟨_, _, _, _, k, h4.more, .inr ⟨g, rfl, hin⟩, h6.other (by simp), h7.other (by simp)⟩
        · exact ⟨_, _, _, _, k, h4.more, h5.other (by simp), .inr ⟨g, rfl, hin⟩, h7.other (by simp)⟩
        · exact ⟨_, _, _, _, k, h4.more, h5.other (by simp), h6.other (by simp), .inr ⟨g, rfl, hin⟩⟩
      · obtain ⟨h1, h2, bl, o0, o1, o2, h3, h4, h5, h6, h7⟩ := h.node _ _ hm
        have e := (hrest b' s' hm hbb).trans h3
        have hs : s' ≠ s := fun e => hbb (h.one _ _ _ (e ▸ hm) hb)
        refine ⟨h1, ?_, bl, o0, o1, o2, e, h4.more, h5.other ?_, h6.other ?_, h7.other ?_⟩
        · rcases Nat.lt_or_ge b' w'.heap.size with hlt | hge
          · exact hlt
          · rw [Array.getElem?_eq_none (by exact hge)] at e; cases e
        all_goals (intro e; injection e with _ e; exact hs e)
  · rcases List.mem_cons.1 h1 with e1 | h1 <;> rcases List.mem_cons.1 h2 with e2 | h2
    · injection e1 with e1 _; injection e2 with e2 _; rw [e1, e2]
    · injection e1 with e1 e3; rw [e3] at h2; exact absurd h2 (hno b2)
    · injection e2 with e2 e3; rw [e3] at h1; exact absurd h1 (hno b1)
    · exact h.one _ _ _ h1 h2
  · rcases List.mem_cons.1 h1 with e1 | h1 <;> rcases List.mem_cons.1 h2 with e2 | h2
    · injection e1 with _ e1; injection e2 with _ e2; rw [e1, e2]
    · injection e1 with e1 _; rw [e1] at h2; exact absurd h2 (hg s2)
    · injection e2 with e2 _; rw [e2] at h1; exact absurd h1 (hg s1)
    · exact h.same _ _ _ h1 h2
end
end Go.Proofs.YtdjbkppdppdcgaaGreatDoor
