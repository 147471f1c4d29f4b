/- The printer: whatever stands right is printed, and what is printed is a thing of the tree up to its places. tree.Print at every tree. tree.Print at every tree: the call. -/
import Derived.Test.YtjpmghgmmeemkaaGreatDoorPrX
import Derived.Test.YtjpmghgmmeemkaaGreatDoorJPrO
import Derived.Test.YtjpmghgmmeemkaaGreatDoorPrG
import Derived.Test.YtjpmghgmmeemkaaGreatDoorPrF
import Derived.Test.YtjpmghgmmeemkaaGreatDoorPrJ
import Derived.Test.YtjpmghgmmeemkaaGreatDoorJLookSpec
import Derived.Test.YtjpmghgmmeemkaaGreatDoorJPrint
namespace Go.Proofs.YtjpmghgmmeemkaaGreatDoor
open Go.RowKit

def isBk (k : Int) : Prop := k = 14 ∨ k = 15 ∨ (35 ≤ k ∧ k ≤ 51 ∧ k ≠ 40)
def isSk (k : Int) : Prop := 17 ≤ k ∧ k ≤ 34 ∧ k ≠ 27
/-- What the printer can do with a tree that stands right. -/
structure Good (c : Nd) : Prop where
  B : isBk c.kind → CanB c
  S : isSk c.kind → CanS c
  C : c.kind = 27 → CanC c
  O : c.kind = 40 → c.kids ≠ [] ∧ ∀ y ∈ c.kids, CanB y
  D : 2 ≤ c.kind ∧ c.kind ≤ 7 → CanD c
  L : c.kind = 17 → ∀ y ∈ c.kids, CanS y
  X : c.kind = 38 → ∀ y ∈ c.kids, CanB y
  M : c.kind = 11 → 0 ≤ c.num ∧ c.num ≤ 12
  R : c.kind = 12 → CanRecv c
  P : c.kind = 1 → ∀ y ∈ c.kids, CanD y
section
variable {k : Int} {s : ByteArray} {n : Int} {ks : List Nd}

theorem goodB (hk : isBk k ∧ k ≠ 38) (hB : CanB (.mk k s n 0 ks)) : Good (.mk k s n 0 ks) :=
  ⟨fun _ => hB,
   fun e => False.elim (by have e1 : isSk k := e; (try unfold isBk at *); (try unfold isSk at *); omega),
   fun e => False.elim (by have e1 : k = 27 := e; (try unfold isBk at *); (try unfold isSk at *); omega),
   fun e => False.elim (by have e1 : k = 40 := e; (try unfold isBk at *); (try unfold isSk at *); omega),
   fun e => False.elim (by have e1 : 2 ≤ k ∧ k ≤ 7 := e; (try unfold isBk at *); (try unfold isSk at *); omega),
   fun e => False.elim (by have e1 : k = 17 := e; (try unfold isBk at *); (try unfold isSk at *); omega),
   fun e => False.elim (by have e1 : k = 38 := e; (try unfold isBk at *); (try unfold isSk at *); omega),
   fun e => False.elim (by have e1 : k = 11 := e; (try unfold isBk at *); (try unfold isSk at *); omega),
   fun e => False.elim (by have e1 : k = 12 := e; (try unfold isBk at *); (try unfold isSk at *); omega),
   fun e => False.elim (by have e1 : k = 1 := e; (try unfold isBk at *); (try unfold isSk at *); omega)⟩

theorem goodS (hk : isSk k ∧ k ≠ 17) (hS : CanS (.mk k s n 0 ks)) : Good (.mk k s n 0 ks) :=
  ⟨fun e => False.elim (by have e1 : isBk k := e; (try unfold isBk at *); (try unfold isSk at *); omega),
   fun _ => hS,
   fun e => False.elim (by have e1 : k = 27 := e; (try unfold isBk at *); (try unfold isSk at *); omega),
   fun e => False.elim (by have e1 : k = 40 := e; (try unfold isBk at *); (try unfold isSk at *); omega),
   fun e => False.elim (by have e1 : 2 ≤ k ∧ k ≤ 7 := e; (try unfold isBk at *); (try unfold isSk at *); omega),
   fun e => False.elim (by have e1 : k = 17 := e; (try unfold isBk at *); (try unfold isSk at *); omega),
   fun e => False.elim (by have e1 : k = 38 := e; (try unfold isBk at *); (try unfold isSk at *); omega),
   fun e => False.elim (by have e1 : k = 11 := e; (try unfold isBk at *); (try unfold isSk at *); omega),
   fun e => False.elim (by have e1 : k = 12 := e; (try unfold isBk at *); (try unfold isSk at *); omega),
   fun e => False.elim (by have e1 : k = 1 := e; (try unfold isBk at *); (try unfold isSk at *); omega)⟩

theorem goodSL (hk : k = 17) (hS : CanS (.mk k s n 0 ks)) (hL : ∀ y ∈ ks, CanS y) : Good (.mk k s n 0 ks) :=
  ⟨fun e => False.elim (by have e1 : isBk k := e; (try unfold isBk at *); (try unfold isSk at *); omega),
   fun _ => hS,
   fun e => False.elim (by have e1 : k = 27 := e; (try unfold isBk at *); (try unfold isSk at *); omega),
   fun e => False.elim (by have e1 : k = 40 := e; (try unfold isBk at *); (try unfold isSk at *); omega),
   fun e => False.elim (by have e1 : 2 ≤ k ∧ k ≤ 7 := e; (try unfold isBk at *); (try unfold isSk at *); omega),
   fun _ => hL,
   fun e => False.elim (by have e1 : k = 38 := e; (try unfold isBk at *); (try unfold isSk at *); omega),
   fun e => False.elim (by have e1 : k = 11 := e; (try unfold isBk at *); (try unfold isSk at *); omega),
   fun e => False.elim (by have e1 : k = 12 := e; (try unfold isBk at *); (try unfold isSk at *); omega),
   fun e => False.elim (by have e1 : k = 1 := e; (try unfold isBk at *); (try unfold isSk at *); omega)⟩

theorem goodBX (hk : k = 38) (hB : CanB (.mk k s n 0 ks)) (hX : ∀ y ∈ ks, CanB y) : Good (.mk k s n 0 ks) :=
  ⟨fun _ => hB,
   fun e => False.elim (by have e1 : isSk k := e; (try unfold isBk at *); (try unfold isSk at *); omega),
   fun e => False.elim (by have e1 : k = 27 := e; (try unfold isBk at *); (try unfold isSk at *); omega),
   fun e => False.elim (by have e1 : k = 40 := e; (try unfold isBk at *); (try unfold isSk at *); omega),
   fun e => False.elim (by have e1 : 2 ≤ k ∧ k ≤ 7 := e; (try unfold isBk at *); (try unfold isSk at *); omega),
   fun e => False.elim (by have e1 : k = 17 := e; (try unfold isBk at *); (try unfold isSk at *); omega),
   fun _ => hX,
   fun e => False.elim (by have e1 : k = 11 := e; (try unfold isBk at *); (try unfold isSk at *); omega),
   fun e => False.elim (by have e1 : k = 12 := e; (try unfold isBk at *); (try unfold isSk at *); omega),
   fun e => False.elim (by have e1 : k = 1 := e; (try unfold isBk at *); (try unfold isSk at *); omega)⟩

theorem goodC (hk : k = 27) (hC : CanC (.mk k s n 0 ks)) : Good (.mk k s n 0 ks) :=
  ⟨fun e => False.elim (by have e1 : isBk k := e; (try unfold isBk at *); (try unfold isSk at *); omega),
   fun e => False.elim (by have e1 : isSk k := e; (try unfold isBk at *); (try unfold isSk at *); omega),
   fun _ => hC,
   fun e => False.elim (by have e1 : k = 40 := e; (try unfold isBk at *); (try unfold isSk at *); omega),
   fun e => False.elim (by have e1 : 2 ≤ k ∧ k ≤ 7 := e; (try unfold isBk at *); (try unfold isSk at *); omega),
   fun e => False.elim (by have e1 : k = 17 := e; (try unfold isBk at *); (try unfold isSk at *); omega),
   fun e => False.elim (by have e1 : k = 38 := e; (try unfold isBk at *); (try unfold isSk at *); omega),
   fun e => False.elim (by have e1 : k = 11 := e; (try unfold isBk at *); (try unfold isSk at *); omega),
   fun e => False.elim (by have e1 : k = 12 := e; (try unfold isBk at *); (try unfold isSk at *); omega),
   fun e => False.elim (by have e1 : k = 1 := e; (try unfold isBk at *); (try unfold isSk at *); omega)⟩

theorem goodO (hk : k = 40) (hO : ks ≠ [] ∧ ∀ y ∈ ks, CanB y) : Good (.mk k s n 0 ks) :=
  ⟨fun e => False.elim (by have e1 : isBk k := e; (try unfold isBk at *); (try unfold isSk at *); omega),
   fun e => False.elim (by have e1 : isSk k := e; (try unfold isBk at *); (try unfold isSk at *); omega),
   fun e => False.elim (by have e1 : k = 27 := e; (try unfold isBk at *); (try unfold isSk at *); omega),
   fun _ => hO,
   fun e => False.elim (by have e1 : 2 ≤ k ∧ k ≤ 7 := e; (try unfold isBk at *); (try unfold isSk at *); omega),
   fun e => False.elim (by have e1 : k = 17 := e; (try unfold isBk at *); (try unfold isSk at *); omega),
   fun e => False.elim (by have e1 : k = 38 := e; (try unfold isBk at *); (try unfold isSk at *); omega),
   fun e => False.elim (by have e1 : k = 11 := e; (try unfold isBk at *); (try unfold isSk at *); omega),
   fun e => False.elim (by have e1 : k = 12 := e; (try unfold isBk at *); (try unfold isSk at *); omega),
   fun e => False.elim (by have e1 : k = 1 := e; (try unfold isBk at *); (try unfold isSk at *); omega)⟩

theorem goodD (hk : 2 ≤ k ∧ k ≤ 7) (hD : CanD (.mk k s n 0 ks)) : Good (.mk k s n 0 ks) :=
  ⟨fun e => False.elim (by have e1 : isBk k := e; (try unfold isBk at *); (try unfold isSk at *); omega),
   fun e => False.elim (by have e1 : isSk k := e; (try unfold isBk at *); (try unfold isSk at *); omega),
   fun e => False.elim (by have e1 : k = 27 := e; (try unfold isBk at *); (try unfold isSk at *); omega),
   fun e => False.elim (by have e1 : k = 40 := e; (try unfold isBk at *); (try unfold isSk at *); omega),
   fun _ => hD,
   fun e => False.elim (by have e1 : k = 17 := e; (try unfold isBk at *); (try unfold isSk at *); omega),
   fun e => False.elim (by have e1 : k = 38 := e; (try unfold isBk at *); (try unfold isSk at *); omega),
   fun e => False.elim (by have e1 : k = 11 := e; (try unfold isBk at *); (try unfold isSk at *); omega),
   fun e => False.elim (by have e1 : k = 12 := e; (try unfold isBk at *); (try unfold isSk at *); omega),
   fun e => False.elim (by have e1 : k = 1 := e; (try unfold isBk at *); (try unfold isSk at *); omega)⟩

theorem goodM (hk : k = 11) (hM : 0 ≤ n ∧ n ≤ 12) : Good (.mk k s n 0 ks) :=
  ⟨fun e => False.elim (by have e1 : isBk k := e; (try unfold isBk at *); (try unfold isSk at *); omega),
   fun e => False.elim (by have e1 : isSk k := e; (try unfold isBk at *); (try unfold isSk at *); omega),
   fun e => False.elim (by have e1 : k = 27 := e; (try unfold isBk at *); (try unfold isSk at *); omega),
   fun e => False.elim (by have e1 : k = 40 := e; (try unfold isBk at *); (try unfold isSk at *); omega),
   fun e => False.elim (by have e1 : 2 ≤ k ∧ k ≤ 7 := e; (try unfold isBk at *); (try unfold isSk at *); omega),
   fun e => False.elim (by have e1 : k = 17 := e; (try unfold isBk at *); (try unfold isSk at *); omega),
   fun e => False.elim (by have e1 : k = 38 := e; (try unfold isBk at *); (try unfold isSk at *); omega),
   fun _ => hM,
   fun e => False.elim (by have e1 : k = 12 := e; (try unfold isBk at *); (try unfold isSk at *); omega),
   fun e => False.elim (by have e1 : k = 1 := e; (try unfold isBk at *); (try unfold isSk at *); omega)⟩

theorem goodR (hk : k = 12) (hR : CanRecv (.mk k s n 0 ks)) : Good (.mk k s n 0 ks) :=
  ⟨fun e => False.elim (by have e1 : isBk k := e; (try unfold isBk at *); (try unfold isSk at *); omega),
   fun e => False.elim (by have e1 : isSk k := e; (try unfold isBk at *); (try unfold isSk at *); omega),
   fun e => False.elim (by have e1 : k = 27 := e; (try unfold isBk at *); (try unfold isSk at *); omega),
   fun e => False.elim (by have e1 : k = 40 := e; (try unfold isBk at *); (try unfold isSk at *); omega),
   fun e => False.elim (by have e1 : 2 ≤ k ∧ k ≤ 7 := e; (try unfold isBk at *); (try unfold isSk at *); omega),
   fun e => False.elim (by have e1 : k = 17 := e; (try unfold isBk at *); (try unfold isSk at *); omega),
   fun e => False.elim (by have e1 : k = 38 := e; (try unfold isBk at *); (try unfold isSk at *); omega),
   fun e => False.elim (by have e1 : k = 11 := e; (try unfold isBk at *); (try unfold isSk at *); omega),
   fun _ => hR,
   fun e => False.elim (by have e1 : k = 1 := e; (try unfold isBk at *); (try unfold isSk at *); omega)⟩

theorem goodP (hk : k = 1) (hP : ∀ y ∈ ks, CanD y) : Good (.mk k s n 0 ks) :=
  ⟨fun e => False.elim (by have e1 : isBk k := e; (try unfold isBk at *); (try unfold isSk at *); omega),
   fun e => False.elim (by have e1 : isSk k := e; (try unfold isBk at *); (try unfold isSk at *); omega),
   fun e => False.elim (by have e1 : k = 27 := e; (try unfold isBk at *); (try unfold isSk at *); omega),
   fun e => False.elim (by have e1 : k = 40 := e; (try unfold isBk at *); (try unfold isSk at *); omega),
   fun e => False.elim (by have e1 : 2 ≤ k ∧ k ≤ 7 := e; (try unfold isBk at *); (try unfold isSk at *); omega),
   fun e => False.elim (by have e1 : k = 17 := e; (try unfold isBk at *); (try unfold isSk at *); omega),
   fun e => False.elim (by have e1 : k = 38 := e; (try unfold isBk at *); (try unfold isSk at *); omega),
   fun e => False.elim (by have e1 : k = 11 := e; (try unfold isBk at *); (try unfold isSk at *); omega),
   fun e => False.elim (by have e1 : k = 12 := e; (try unfold isBk at *); (try unfold isSk at *); omega),
   fun _ => hP⟩

theorem goodN (hk : k = 8 ∨ k = 9 ∨ k = 10 ∨ k = 13 ∨ k = 16)  : Good (.mk k s n 0 ks) :=
  ⟨fun e => False.elim (by have e1 : isBk k := e; (try unfold isBk at *); (try unfold isSk at *); omega),
   fun e => False.elim (by have e1 : isSk k := e; (try unfold isBk at *); (try unfold isSk at *); omega),
   fun e => False.elim (by have e1 : k = 27 := e; (try unfold isBk at *); (try unfold isSk at *); omega),
   fun e => False.elim (by have e1 : k = 40 := e; (try unfold isBk at *); (try unfold isSk at *); omega),
   fun e => False.elim (by have e1 : 2 ≤ k ∧ k ≤ 7 := e; (try unfold isBk at *); (try unfold isSk at *); omega),
   fun e => False.elim (by have e1 : k = 17 := e; (try unfold isBk at *); (try unfold isSk at *); omega),
   fun e => False.elim (by have e1 : k = 38 := e; (try unfold isBk at *); (try unfold isSk at *); omega),
   fun e => False.elim (by have e1 : k = 11 := e; (try unfold isBk at *); (try unfold isSk at *); omega),
   fun e => False.elim (by have e1 : k = 12 := e; (try unfold isBk at *); (try unfold isSk at *); omega),
   fun e => False.elim (by have e1 : k = 1 := e; (try unfold isBk at *); (try unfold isSk at *); omega)⟩

end
/-- The kids of a node stand right where its shape puts them. -/
def KF (ks : List Nd) (sh : Shp) : Prop := ∀ (j : Nat) (t : Nd), ks[j]? = some t → Good t.strip ∧ mayB t.kind t.text (sh.at_ j) = true
def qB (q : Int) : Bool := q == 4 || q == 5 || q == 6 || q == 11 || q == 13 || q == 16 || q == 17 || q == 18 || q == 23 || q == 24 || q == 25 || q == 28
theorem may_B {k : Int} {s : ByteArray} {q : Int} (hq : qB q = true) (h : mayB k s q = true) : isBk k := by
  have hq' : q = 4 ∨ q = 5 ∨ q = 6 ∨ q = 11 ∨ q = 13 ∨ q = 16 ∨ q = 17 ∨ q = 18 ∨ q = 23 ∨ q = 24 ∨ q = 25 ∨ q = 28 := by
    simpa [qB, or_assoc] using hq
  clear hq
  unfold isBk
  rcases hq' with rfl | rfl | rfl | rfl | rfl | rfl | rfl | rfl | rfl | rfl | rfl | rfl
  all_goals simp [mayB] at h
  all_goals first | omega | (rcases h with ((h | h) | h) | ⟨h, _⟩ <;> omega)
theorem may_12 {k : Int} {s : ByteArray} (h : mayB k s 12 = true) : isBk k ∨ k = 16 := by
  simp [mayB] at h
  unfold isBk
  omega
theorem may_10 {k : Int} {s : ByteArray} (h : mayB k s 10 = true) : isSk k := by
  simp [mayB] at h
  unfold isSk
  omega
theorem may_14 {k : Int} {s : ByteArray} (h : mayB k s 14 = true) : isSk k ∨ k = 16 := by
  simp [mayB] at h
  unfold isSk
  omega
theorem may_9 {k : Int} {s : ByteArray} (h : mayB k s 9 = true) : k = 17 := by simpa [mayB] using h
theorem may_7 {k : Int} {s : ByteArray} (h : mayB k s 7 = true) : k = 12 := by simpa [mayB] using h
theorem may_1 {k : Int} {s : ByteArray} (h : mayB k s 1 = true) : 2 ≤ k ∧ k ≤ 7 := by simpa [mayB] using h
theorem may_29 {k : Int} {s : ByteArray} (h : mayB k s 29 = true) : k = 16 := by simpa [mayB] using h
theorem may_case {k : Int} {s : ByteArray} {q : Int} (hq : q = 19 ∨ q = 20) (h : mayB k s q = true) : k = 27 := by
  rcases hq with rfl | rfl <;> simpa [mayB] using h
theorem may_pair {k : Int} {s : ByteArray} {q : Int} (hq : q = 26 ∨ q = 27) (h : mayB k s q = true) : k = 40 := by
  rcases hq with rfl | rfl <;> simpa [mayB] using h
theorem may_list {k : Int} {s : ByteArray} {q : Int} (hq : q = 21 ∨ q = 22) (h : mayB k s q = true) : k = 38 ∨ k = 16 := by
  rcases hq with rfl | rfl <;> simpa [mayB] using h
section
variable {ks : List Nd} {sh : Shp} {j : Nat} {t : Nd}
theorem KF.B (h : KF ks sh) (ht : ks[j]? = some t) (hq : qB (sh.at_ j) = true) : CanB t.strip := (h j t ht).1.B (by rw [strip_kind]; exact may_B hq (h j t ht).2)
theorem KF.H (h : KF ks sh) (ht : ks[j]? = some t) (hq : sh.at_ j = 12 ∨ qB (sh.at_ j) = true) : t.strip.kind ≠ 16 → CanB t.strip := fun hn => (h j t ht).1.B (by
  rw [strip_kind] at hn ⊢
  have hm := (h j t ht).2
  rcases hq with hq | hq
  · rw [hq] at hm
    rcases may_12 hm with e | e
    · exact e
    · exact absurd e hn
  · exact may_B hq hm)
theorem KF.K (h : KF ks sh) (ht : ks[j]? = some t) (hq : sh.at_ j = 9) : ∀ y ∈ t.strip.kids, CanS y := (h j t ht).1.L (by
  have hm := (h j t ht).2
  rw [hq] at hm
  rw [strip_kind]
  exact may_9 hm)
theorem KF.R (h : KF ks sh) (ht : ks[j]? = some t) (hq : sh.at_ j = 7) : CanRecv t.strip := (h j t ht).1.R (by
  have hm := (h j t ht).2
  rw [hq] at hm
  rw [strip_kind]
  exact may_7 hm)
theorem KF.S (h : KF ks sh) (ht : ks[j]? = some t) (hq : sh.at_ j = 10) : CanS t.strip := (h j t ht).1.S (by
  have hm := (h j t ht).2
  rw [hq] at hm
  rw [strip_kind]
  exact may_10 hm)
theorem KF.E (h : KF ks sh) (ht : ks[j]? = some t) (hq : sh.at_ j = 14) (hn : t.strip.kind ≠ 16) : CanS t.strip := (h j t ht).1.S (by
  have hm := (h j t ht).2
  rw [hq] at hm
  rw [strip_kind] at hn ⊢
  rcases may_14 hm with e | e
  · exact e
  · exact absurd e hn)
theorem KF.D (h : KF ks sh) (ht : ks[j]? = some t) (hq : sh.at_ j = 1) : CanD t.strip := (h j t ht).1.D (by
  have hm := (h j t ht).2
  rw [hq] at hm
  rw [strip_kind]
  exact may_1 hm)
theorem KF.C (h : KF ks sh) (ht : ks[j]? = some t) (hq : sh.at_ j = 19 ∨ sh.at_ j = 20) : CanC t.strip := (h j t ht).1.C (by
  rw [strip_kind]
  exact may_case hq (h j t ht).2)
theorem KF.X (h : KF ks sh) (ht : ks[j]? = some t) (hq : sh.at_ j = 21 ∨ sh.at_ j = 22) (hn : t.strip.kind ≠ 16) : ∀ y ∈ t.strip.kids, CanB y := (h j t ht).1.X (by
  rw [strip_kind] at hn ⊢
  rcases may_list hq (h j t ht).2 with e | e
  · exact e
  · exact absurd e hn)
theorem KF.M (h : KF ks sh) (ht : ks[j]? = some t) : CanM t.strip := (h j t ht).1.M
theorem KF.O (h : KF ks sh) (ht : ks[j]? = some t) (hq : qB (sh.at_ j) = true ∨ sh.at_ j = 12 ∨ sh.at_ j = 29 ∨ sh.at_ j = 26 ∨ sh.at_ j = 27) : CanO t.strip := by
  have hg := (h j t ht).1
  refine ⟨hg.O, fun h40 h16 => ?_⟩
  have hm := (h j t ht).2
  rcases hq with hq | hq | hq | hq
  · exact h.B ht hq
  · exact h.H ht (.inl hq) h16
  · rw [hq] at hm
    rw [strip_kind] at h16
    exact absurd (may_29 hm) h16
  · rw [strip_kind] at h40
    exact absurd (may_pair hq hm) h40
end
theorem strip_mem {ts : List Nd} {y : Nd} (h : y ∈ stripL ts) : ∃ (j : Nat) (t : Nd), ts[j]? = some t ∧ t.strip = y := by
  rw [stripL_map, List.mem_map] at h
  obtain ⟨t, ht, rfl⟩ := h
  obtain ⟨j, hj⟩ := List.mem_iff_getElem?.1 ht
  exact ⟨j, t, hj, rfl⟩
theorem kids1 {ks : List Nd} (h : 1 ≤ ks.length) : ∃ a tr, ks = a :: tr := by
  match ks, h with
  | a :: tr, _ => exact ⟨a, tr, rfl⟩
theorem kids2 {ks : List Nd} (h : 2 ≤ ks.length) : ∃ a b tr, ks = a :: b :: tr := by
  match ks, h with
  | a :: b :: tr, _ => exact ⟨a, b, tr, rfl⟩
theorem kids3 {ks : List Nd} (h : 3 ≤ ks.length) : ∃ a b c tr, ks = a :: b :: c :: tr := by
  match ks, h with
  | a :: b :: c :: tr, _ => exact ⟨a, b, c, tr, rfl⟩
theorem kids4 {ks : List Nd} (h : 4 ≤ ks.length) : ∃ a b c d tr, ks = a :: b :: c :: d :: tr := by
  match ks, h with
  | a :: b :: c :: d :: tr, _ => exact ⟨a, b, c, d, tr, rfl⟩
theorem fx_at (l : List Int) (i : Nat) : (fx l).at_ i = (l[i]?).getD 29 := rfl
theorem rw_at (r : Int) (l : List Int) (i : Nat) : (rwS r l).at_ i = (l[i]?).getD r := rfl
theorem lim_at (r m : Int) (i : Nat) : (lim r m).at_ i = r := by simp [lim, Shp.at_]

section
variable {s : ByteArray} {n q : Int} {ks : List Nd}

theorem good_1 (hl : (shapeOf 1 s ks q).least ≤ ks.length) (hk : KF ks (shapeOf 1 s ks q)) : Good (.mk 1 s n 0 (stripL ks)) := by
  have e : shapeOf 1 s ks q = rwS 1 [] := by simp [shapeOf, stmtShape]
  rw [e] at hl hk
  exact goodP rfl (fun y hy => by obtain ⟨j, t, ht, rfl⟩ := strip_mem hy; exact hk.D ht (by rw [rw_at]; rfl))

theorem good_2 (hl : (shapeOf 2 s ks q).least ≤ ks.length) (hk : KF ks (shapeOf 2 s ks q)) : Good (.mk 2 s n 0 (stripL ks)) := by
  have e : shapeOf 2 s ks q = fx [5] := by simp [shapeOf, stmtShape]
  rw [e] at hl hk
  obtain ⟨t0, tr, rfl⟩ := kids1 (show 1 ≤ ks.length by have h : ((1 : Nat) : Int) ≤ ks.length := hl; omega)
  show Good (.mk 2 s n 0 (t0.strip :: stripL tr))
  exact goodD (by omega) (CanD.of decl_type)

theorem good_3 (hl : (shapeOf 3 s ks q).least ≤ ks.length) (hk : KF ks (shapeOf 3 s ks q)) : Good (.mk 3 s n 0 (stripL ks)) := by
  have e : shapeOf 3 s ks q = lim 2 30 := by simp [shapeOf, stmtShape]
  rw [e] at hl hk
  exact goodD (by omega) (CanD.of (decl_members3 (fun y hy => by obtain ⟨j, t, ht, rfl⟩ := strip_mem hy; exact hk.M ht)))

theorem good_4 (hl : (shapeOf 4 s ks q).least ≤ ks.length) (hk : KF ks (shapeOf 4 s ks q)) : Good (.mk 4 s n 0 (stripL ks)) := by
  have e : shapeOf 4 s ks q = lim 3 60 := by simp [shapeOf, stmtShape]
  rw [e] at hl hk
  exact goodD (by omega) (CanD.of (decl_members4 (fun y hy => by obtain ⟨j, t, ht, rfl⟩ := strip_mem hy; exact hk.M ht)))

theorem good_5 (hl : (shapeOf 5 s ks q).least ≤ ks.length) (hk : KF ks (shapeOf 5 s ks q)) : Good (.mk 5 s n 0 (stripL ks)) := by
  have e : shapeOf 5 s ks q = fx [8, 9] := by simp [shapeOf, stmtShape]
  rw [e] at hl hk
  obtain ⟨t0, t1, tr, rfl⟩ := kids2 (show 2 ≤ ks.length by have h : ((2 : Nat) : Int) ≤ ks.length := hl; omega)
  show Good (.mk 5 s n 0 (t0.strip :: t1.strip :: stripL tr))
  exact goodD (by omega) (CanD.of (decl_func (hk.K (j := 1) rfl rfl)))

theorem good_6 (hl : (shapeOf 6 s ks q).least ≤ ks.length) (hk : KF ks (shapeOf 6 s ks q)) : Good (.mk 6 s n 0 (stripL ks)) := by
  have e : shapeOf 6 s ks q = fx [7, 8, 9] := by simp [shapeOf, stmtShape]
  rw [e] at hl hk
  obtain ⟨t0, t1, t2, tr, rfl⟩ := kids3 (show 3 ≤ ks.length by have h : ((3 : Nat) : Int) ≤ ks.length := hl; omega)
  show Good (.mk 6 s n 0 (t0.strip :: t1.strip :: t2.strip :: stripL tr))
  exact goodD (by omega) (CanD.of (decl_method (hk.R (j := 0) rfl rfl) (hk.K (j := 2) rfl rfl)))

theorem good_7 (hl : (shapeOf 7 s ks q).least ≤ ks.length) (hk : KF ks (shapeOf 7 s ks q)) : Good (.mk 7 s n 0 (stripL ks)) := by
  have e : shapeOf 7 s ks q = fx [11] := by simp [shapeOf, stmtShape]
  rw [e] at hl hk
  obtain ⟨t0, tr, rfl⟩ := kids1 (show 1 ≤ ks.length by have h : ((1 : Nat) : Int) ≤ ks.length := hl; omega)
  show Good (.mk 7 s n 0 (t0.strip :: stripL tr))
  exact goodD (by omega) (CanD.of (decl_var (hk.B (j := 0) rfl rfl)))

theorem good_12 (hl : (shapeOf 12 s ks q).least ≤ ks.length) (hk : KF ks (shapeOf 12 s ks q)) : Good (.mk 12 s n 0 (stripL ks)) := by
  have e : shapeOf 12 s ks q = fx [6] := by simp [shapeOf, stmtShape]
  rw [e] at hl hk
  obtain ⟨t0, tr, rfl⟩ := kids1 (show 1 ≤ ks.length by have h : ((1 : Nat) : Int) ≤ ks.length := hl; omega)
  show Good (.mk 12 s n 0 (t0.strip :: stripL tr))
  exact goodR rfl ⟨t0.strip, stripL tr, rfl, (hk.B (j := 0) rfl rfl)⟩

theorem good_15 (hl : (shapeOf 15 s ks q).least ≤ ks.length) (hk : KF ks (shapeOf 15 s ks q)) : Good (.mk 15 s n 0 (stripL ks)) := by
  have e : shapeOf 15 s ks q = fx [4] := by simp [shapeOf, stmtShape]
  rw [e] at hl hk
  obtain ⟨t0, tr, rfl⟩ := kids1 (show 1 ≤ ks.length by have h : ((1 : Nat) : Int) ≤ ks.length := hl; omega)
  show Good (.mk 15 s n 0 (t0.strip :: stripL tr))
  exact goodB (by unfold isBk; omega) (CanB.of bare_w_pointer)

theorem good_17 (hl : (shapeOf 17 s ks q).least ≤ ks.length) (hk : KF ks (shapeOf 17 s ks q)) : Good (.mk 17 s n 0 (stripL ks)) := by
  have e : shapeOf 17 s ks q = rwS 10 [] := by simp [shapeOf, stmtShape]
  rw [e] at hl hk
  have h : ∀ y ∈ stripL ks, CanS y := (fun y hy => by obtain ⟨j, t, ht, rfl⟩ := strip_mem hy; exact hk.S ht (by rw [rw_at]; rfl))
  exact goodSL rfl (CanS.of (stmt_block h)) h

theorem good_18 (hl : (shapeOf 18 s ks q).least ≤ ks.length) (hk : KF ks (shapeOf 18 s ks q)) : Good (.mk 18 s n 0 (stripL ks)) := by
  have e : shapeOf 18 s ks q = fx [11] := by simp [shapeOf, stmtShape]
  rw [e] at hl hk
  obtain ⟨t0, tr, rfl⟩ := kids1 (show 1 ≤ ks.length by have h : ((1 : Nat) : Int) ≤ ks.length := hl; omega)
  show Good (.mk 18 s n 0 (t0.strip :: stripL tr))
  exact goodS (by unfold isSk; omega) (CanS.of (stmt_define (hk.B (j := 0) rfl rfl)))

theorem good_19 (hl : (shapeOf 19 s ks q).least ≤ ks.length) (hk : KF ks (shapeOf 19 s ks q)) : Good (.mk 19 s n 0 (stripL ks)) := by
  have e : shapeOf 19 s ks q = fx [4, 4, 16] := by simp [shapeOf, stmtShape]
  rw [e] at hl hk
  obtain ⟨t0, t1, t2, tr, rfl⟩ := kids3 (show 3 ≤ ks.length by have h : ((3 : Nat) : Int) ≤ ks.length := hl; omega)
  show Good (.mk 19 s n 0 (t0.strip :: t1.strip :: t2.strip :: stripL tr))
  exact goodS (by unfold isSk; omega) (CanS.of (stmt_two19 (hk.B (j := 2) rfl rfl)))

theorem good_21 (hl : (shapeOf 21 s ks q).least ≤ ks.length) (hk : KF ks (shapeOf 21 s ks q)) : Good (.mk 21 s n 0 (stripL ks)) := by
  have e : shapeOf 21 s ks q = fx [4, 4, 16] := by simp [shapeOf, stmtShape]
  rw [e] at hl hk
  obtain ⟨t0, t1, t2, tr, rfl⟩ := kids3 (show 3 ≤ ks.length by have h : ((3 : Nat) : Int) ≤ ks.length := hl; omega)
  show Good (.mk 21 s n 0 (t0.strip :: t1.strip :: t2.strip :: stripL tr))
  exact goodS (by unfold isSk; omega) (CanS.of (stmt_two21 (hk.B (j := 2) rfl rfl)))

theorem good_20 (hl : (shapeOf 20 s ks q).least ≤ ks.length) (hk : KF ks (shapeOf 20 s ks q)) : Good (.mk 20 s n 0 (stripL ks)) := by
  have e : shapeOf 20 s ks q = fx [13, 11] := by simp [shapeOf, stmtShape]
  rw [e] at hl hk
  obtain ⟨t0, t1, tr, rfl⟩ := kids2 (show 2 ≤ ks.length by have h : ((2 : Nat) : Int) ≤ ks.length := hl; omega)
  show Good (.mk 20 s n 0 (t0.strip :: t1.strip :: stripL tr))
  exact goodS (by unfold isSk; omega) (CanS.of (stmt_assign (hk.B (j := 0) rfl rfl) (hk.B (j := 1) rfl rfl)))

theorem good_22 (hl : (shapeOf 22 s ks q).least ≤ ks.length) (hk : KF ks (shapeOf 22 s ks q)) : Good (.mk 22 s n 0 (stripL ks)) := by
  have e : shapeOf 22 s ks q = fx [11, 9, 14] := by simp [shapeOf, stmtShape]
  rw [e] at hl hk
  obtain ⟨t0, t1, t2, tr, rfl⟩ := kids3 (show 3 ≤ ks.length by have h : ((3 : Nat) : Int) ≤ ks.length := hl; omega)
  show Good (.mk 22 s n 0 (t0.strip :: t1.strip :: t2.strip :: stripL tr))
  by_cases h16 : t2.strip.kind = 16
  · exact goodS (by unfold isSk; omega) (CanS.of (stmt_if1 (hk.H (j := 0) rfl (.inr rfl)) (hk.K (j := 1) rfl rfl) h16))
  · exact goodS (by unfold isSk; omega) (CanS.of (stmt_if2 (hk.H (j := 0) rfl (.inr rfl)) (hk.K (j := 1) rfl rfl) h16 (hk.E (j := 2) rfl rfl h16)))

theorem good_23 (hl : (shapeOf 23 s ks q).least ≤ ks.length) (hk : KF ks (shapeOf 23 s ks q)) : Good (.mk 23 s n 0 (stripL ks)) := by
  have e : shapeOf 23 s ks q = fx [12, 9] := by simp [shapeOf, stmtShape]
  rw [e] at hl hk
  obtain ⟨t0, t1, tr, rfl⟩ := kids2 (show 2 ≤ ks.length by have h : ((2 : Nat) : Int) ≤ ks.length := hl; omega)
  show Good (.mk 23 s n 0 (t0.strip :: t1.strip :: stripL tr))
  cases hs0 : s.toList == [] with
  | true => exact goodS (by unfold isSk; omega) (CanS.of (stmt_loop23 (loop_for (hk.H (j := 0) rfl (.inl rfl)) (hk.K (j := 1) rfl rfl)) hs0))
  | false => exact goodS (by unfold isSk; omega) (CanS.of (stmt_label23 (loop_for (hk.H (j := 0) rfl (.inl rfl)) (hk.K (j := 1) rfl rfl)) hs0))

theorem good_24 (hl : (shapeOf 24 s ks q).least ≤ ks.length) (hk : KF ks (shapeOf 24 s ks q)) : Good (.mk 24 s n 0 (stripL ks)) := by
  have e : shapeOf 24 s ks q = fx [15, 15, 11, 9] := by simp [shapeOf, stmtShape]
  rw [e] at hl hk
  obtain ⟨t0, t1, t2, t3, tr, rfl⟩ := kids4 (show 4 ≤ ks.length by have h : ((4 : Nat) : Int) ≤ ks.length := hl; omega)
  show Good (.mk 24 s n 0 (t0.strip :: t1.strip :: t2.strip :: t3.strip :: stripL tr))
  by_cases h16 : t1.strip.kind = 16
  · cases hs0 : s.toList == [] with
    | true => exact goodS (by unfold isSk; omega) (CanS.of (stmt_loop24 (loop_range1 h16 (hk.H (j := 2) rfl (.inr rfl)) (hk.K (j := 3) rfl rfl)) hs0))
    | false => exact goodS (by unfold isSk; omega) (CanS.of (stmt_label24 (loop_range1 h16 (hk.H (j := 2) rfl (.inr rfl)) (hk.K (j := 3) rfl rfl)) hs0))
  · cases hs0 : s.toList == [] with
    | true => exact goodS (by unfold isSk; omega) (CanS.of (stmt_loop24 (loop_range2 h16 (hk.H (j := 2) rfl (.inr rfl)) (hk.K (j := 3) rfl rfl)) hs0))
    | false => exact goodS (by unfold isSk; omega) (CanS.of (stmt_label24 (loop_range2 h16 (hk.H (j := 2) rfl (.inr rfl)) (hk.K (j := 3) rfl rfl)) hs0))

theorem good_25 (hl : (shapeOf 25 s ks q).least ≤ ks.length) (hk : KF ks (shapeOf 25 s ks q)) : Good (.mk 25 s n 0 (stripL ks)) := by
  have e : shapeOf 25 s ks q = rwS 19 [12] := by simp [shapeOf, stmtShape]
  rw [e] at hl hk
  obtain ⟨t0, tr, rfl⟩ := kids1 (show 1 ≤ ks.length by have h : ((1 : Nat) : Int) ≤ ks.length := hl; omega)
  show Good (.mk 25 s n 0 (t0.strip :: stripL tr))
  have hc : ∀ y ∈ stripL tr, CanC y := (fun y hy => by obtain ⟨j, t, ht, rfl⟩ := strip_mem hy; exact hk.C (j := j + 1) ht (.inl (by rw [rw_at]; rfl)))
  cases hs0 : s.toList == [] with
  | true => exact goodS (by unfold isSk; omega) (CanS.of (stmt_loop25 (loop_switch (hk.H (j := 0) rfl (.inl rfl)) hc) hs0))
  | false => exact goodS (by unfold isSk; omega) (CanS.of (stmt_label25 (loop_switch (hk.H (j := 0) rfl (.inl rfl)) hc) hs0))

theorem good_26 (hl : (shapeOf 26 s ks q).least ≤ ks.length) (hk : KF ks (shapeOf 26 s ks q)) : Good (.mk 26 s n 0 (stripL ks)) := by
  have e : shapeOf 26 s ks q = rwS 20 [15, 11] := by simp [shapeOf, stmtShape]
  rw [e] at hl hk
  obtain ⟨t0, t1, tr, rfl⟩ := kids2 (show 2 ≤ ks.length by have h : ((2 : Nat) : Int) ≤ ks.length := hl; omega)
  show Good (.mk 26 s n 0 (t0.strip :: t1.strip :: stripL tr))
  have hc : ∀ y ∈ stripL tr, CanC y := (fun y hy => by obtain ⟨j, t, ht, rfl⟩ := strip_mem hy; exact hk.C (j := j + 2) ht (.inr (by rw [rw_at]; rfl)))
  by_cases h16 : t0.strip.kind = 16
  · cases hs0 : s.toList == [] with
    | true => exact goodS (by unfold isSk; omega) (CanS.of (stmt_loop26 (loop_tswitch1 h16 (hk.B (j := 1) rfl rfl) hc) hs0))
    | false => exact goodS (by unfold isSk; omega) (CanS.of (stmt_label26 (loop_tswitch1 h16 (hk.B (j := 1) rfl rfl) hc) hs0))
  · cases hs0 : s.toList == [] with
    | true => exact goodS (by unfold isSk; omega) (CanS.of (stmt_loop26 (loop_tswitch2 h16 (hk.B (j := 1) rfl rfl) hc) hs0))
    | false => exact goodS (by unfold isSk; omega) (CanS.of (stmt_label26 (loop_tswitch2 h16 (hk.B (j := 1) rfl rfl) hc) hs0))

theorem good_27 (hl : (shapeOf 27 s ks q).least ≤ ks.length) (hk : KF ks (shapeOf 27 s ks q)) : Good (.mk 27 s n 0 (stripL ks)) := by
  obtain ⟨a, ha, e⟩ : ∃ a : Int, (a = 21 ∨ a = 22) ∧ shapeOf 27 s ks q = fx [a, 9] := by
    by_cases h : q = 20 ∨ (q = 0 ∧ typedB ks = true)
    · exact ⟨22, .inr rfl, by simp [shapeOf, stmtShape, h]⟩
    · exact ⟨21, .inl rfl, by simp [shapeOf, stmtShape, h]⟩
  rw [e] at hl hk
  obtain ⟨t0, t1, tr, rfl⟩ := kids2 (show 2 ≤ ks.length by have h : ((2 : Nat) : Int) ≤ ks.length := hl; omega)
  show Good (.mk 27 s n 0 (t0.strip :: t1.strip :: stripL tr))
  by_cases h16 : t0.strip.kind = 16
  · exact goodC rfl (CanC.of (oneCase_default h16 (hk.K (j := 1) rfl rfl)))
  · exact goodC rfl (CanC.of (oneCase_some h16 (hk.X (j := 0) rfl ha h16) (hk.K (j := 1) rfl rfl)))

theorem good_28 (hl : (shapeOf 28 s ks q).least ≤ ks.length) (hk : KF ks (shapeOf 28 s ks q)) : Good (.mk 28 s n 0 (stripL ks)) := by
  have e : shapeOf 28 s ks q = fx [12] := by simp [shapeOf, stmtShape]
  rw [e] at hl hk
  obtain ⟨t0, tr, rfl⟩ := kids1 (show 1 ≤ ks.length by have h : ((1 : Nat) : Int) ≤ ks.length := hl; omega)
  show Good (.mk 28 s n 0 (t0.strip :: stripL tr))
  by_cases h16 : t0.strip.kind = 16
  · exact goodS (by unfold isSk; omega) (CanS.of (stmt_return1 h16))
  · exact goodS (by unfold isSk; omega) (CanS.of (stmt_return2 h16 ((hk.H (j := 0) rfl (.inl rfl)) h16)))

theorem good_29 (hl : (shapeOf 29 s ks q).least ≤ ks.length) (hk : KF ks (shapeOf 29 s ks q)) : Good (.mk 29 s n 0 (stripL ks)) := by
  have e : shapeOf 29 s ks q = fx [17] := by simp [shapeOf, stmtShape]
  rw [e] at hl hk
  obtain ⟨t0, tr, rfl⟩ := kids1 (show 1 ≤ ks.length by have h : ((1 : Nat) : Int) ≤ ks.length := hl; omega)
  show Good (.mk 29 s n 0 (t0.strip :: stripL tr))
  exact goodS (by unfold isSk; omega) (CanS.of (stmt_defer (hk.B (j := 0) rfl rfl)))

theorem good_30 (hl : (shapeOf 30 s ks q).least ≤ ks.length) (hk : KF ks (shapeOf 30 s ks q)) : Good (.mk 30 s n 0 (stripL ks)) := by
  have e : shapeOf 30 s ks q = fx [17] := by simp [shapeOf, stmtShape]
  rw [e] at hl hk
  obtain ⟨t0, tr, rfl⟩ := kids1 (show 1 ≤ ks.length by have h : ((1 : Nat) : Int) ≤ ks.length := hl; omega)
  show Good (.mk 30 s n 0 (t0.strip :: stripL tr))
  exact goodS (by unfold isSk; omega) (CanS.of (stmt_do (hk.B (j := 0) rfl rfl)))

theorem good_34 (hl : (shapeOf 34 s ks q).least ≤ ks.length) (hk : KF ks (shapeOf 34 s ks q)) : Good (.mk 34 s n 0 (stripL ks)) := by
  have e : shapeOf 34 s ks q = fx [13] := by simp [shapeOf, stmtShape]
  rw [e] at hl hk
  obtain ⟨t0, tr, rfl⟩ := kids1 (show 1 ≤ ks.length by have h : ((1 : Nat) : Int) ≤ ks.length := hl; omega)
  show Good (.mk 34 s n 0 (t0.strip :: stripL tr))
  exact goodS (by unfold isSk; omega) (CanS.of (stmt_step (hk.B (j := 0) rfl rfl)))

theorem good_38 (hk : KF ks (shapeOf 38 s ks q)) : Good (.mk 38 s n 0 (stripL ks)) := by
  have e : ∀ j, qB ((shapeOf 38 s ks q).at_ j) = true := fun j => by
    by_cases h22 : q = 22
    · simp [shapeOf, h22, Shp.at_, qB]
    · by_cases h21 : q = 21
      · simp [shapeOf, h21, Shp.at_, qB]
      · simp [shapeOf, h22, h21, rw_at, qB]
  have hB : ∀ y ∈ stripL ks, CanB y := (fun y hy => by obtain ⟨j, t, ht, rfl⟩ := strip_mem hy; exact hk.B ht (e j))
  exact goodBX rfl (CanB.of (bare_w_list (fun y hy => by obtain ⟨j, t, ht, rfl⟩ := strip_mem hy; exact hk.O ht (.inl (e j))))) hB

theorem good_39 (hl : (shapeOf 39 s ks q).least ≤ ks.length) (hk : KF ks (shapeOf 39 s ks q)) : Good (.mk 39 s n 0 (stripL ks)) := by
  have e : shapeOf 39 s ks q = rwS 26 [] := by simp [shapeOf, stmtShape]
  rw [e] at hl hk
  exact goodB (by unfold isBk; omega) (CanB.of (bare_w_map (fun y hy => by obtain ⟨j, t, ht, rfl⟩ := strip_mem hy; exact hk.O ht (.inr (.inr (.inr (.inl (by rw [rw_at]; rfl))))))))

theorem good_41 (hl : (shapeOf 41 s ks q).least ≤ ks.length) (hk : KF ks (shapeOf 41 s ks q)) : Good (.mk 41 s n 0 (stripL ks)) := by
  have e : shapeOf 41 s ks q = rwS 27 [] := by simp [shapeOf, stmtShape]
  rw [e] at hl hk
  exact goodB (by unfold isBk; omega) (CanB.of (bare_w_make (fun y hy => by obtain ⟨j, t, ht, rfl⟩ := strip_mem hy; exact hk.O ht (.inr (.inr (.inr (.inr (by rw [rw_at]; rfl))))))))

theorem good_40 (hl : (shapeOf 40 s ks q).least ≤ ks.length) (hm : 0 ≤ (shapeOf 40 s ks q).most → (ks.length : Int) ≤ (shapeOf 40 s ks q).most) (hk : KF ks (shapeOf 40 s ks q)) : Good (.mk 40 s n 0 (stripL ks)) := by
  have e : shapeOf 40 s ks q = fx [11] ∨ shapeOf 40 s ks q = fx [11, 11] := by
    by_cases h : q = 27 ∨ (q = 0 ∧ ¬ s.toList = [])
    · exact .inl (by simp only [shapeOf]; rw [if_pos h]; rfl)
    · exact .inr (by simp only [shapeOf]; rw [if_neg h]; rfl)
  have h1 : 1 ≤ ks.length ∧ ∀ j, j < ks.length → qB ((shapeOf 40 s ks q).at_ j) = true := by
    rcases e with e | e
    · rw [e] at hl hm ⊢
      have h2 : (ks.length : Int) ≤ 1 := hm (by decide)
      have h3 : (1 : Int) ≤ ks.length := hl
      refine ⟨by omega, fun j hj => ?_⟩
      obtain rfl : j = 0 := by omega
      rfl
    · rw [e] at hl hm ⊢
      have h2 : (ks.length : Int) ≤ 2 := hm (by decide)
      have h3 : (2 : Int) ≤ ks.length := hl
      refine ⟨by omega, fun j hj => ?_⟩
      rcases (by omega : j = 0 ∨ j = 1) with rfl | rfl <;> rfl
  refine goodO rfl ⟨?_, fun y hy => ?_⟩
  · obtain ⟨a, tr, rfl⟩ := kids1 h1.1
    simp [stripL]
  · obtain ⟨j, t, ht, rfl⟩ := strip_mem hy
    exact hk.B ht (h1.2 j (List.getElem?_eq_some_iff.1 ht).1)

theorem good_42 (hl : (shapeOf 42 s ks q).least ≤ ks.length) (hk : KF ks (shapeOf 42 s ks q)) : Good (.mk 42 s n 0 (stripL ks)) := by
  have e : shapeOf 42 s ks q = fx [28] := by simp [shapeOf, stmtShape]
  rw [e] at hl hk
  obtain ⟨t0, tr, rfl⟩ := kids1 (show 1 ≤ ks.length by have h : ((1 : Nat) : Int) ≤ ks.length := hl; omega)
  show Good (.mk 42 s n 0 (t0.strip :: stripL tr))
  exact goodB (by unfold isBk; omega) (CanB.of (bare_w_new (hk.B (j := 0) rfl rfl)))

theorem good_43 (hl : (shapeOf 43 s ks q).least ≤ ks.length) (hk : KF ks (shapeOf 43 s ks q)) : Good (.mk 43 s n 0 (stripL ks)) := by
  have e : shapeOf 43 s ks q = fx [8, 9] := by simp [shapeOf, stmtShape]
  rw [e] at hl hk
  obtain ⟨t0, t1, tr, rfl⟩ := kids2 (show 2 ≤ ks.length by have h : ((2 : Nat) : Int) ≤ ks.length := hl; omega)
  show Good (.mk 43 s n 0 (t0.strip :: t1.strip :: stripL tr))
  exact goodB (by unfold isBk; omega) (CanB.of (bare_w_literal (hk.K (j := 1) rfl rfl)))

theorem good_44 (hl : (shapeOf 44 s ks q).least ≤ ks.length) (hk : KF ks (shapeOf 44 s ks q)) : Good (.mk 44 s n 0 (stripL ks)) := by
  have e : shapeOf 44 s ks q = fx [25] := by simp [shapeOf, stmtShape]
  rw [e] at hl hk
  obtain ⟨t0, tr, rfl⟩ := kids1 (show 1 ≤ ks.length by have h : ((1 : Nat) : Int) ≤ ks.length := hl; omega)
  show Good (.mk 44 s n 0 (t0.strip :: stripL tr))
  exact goodB (by unfold isBk; omega) (CanB.of (bare_w_nil (hk.B (j := 0) rfl rfl)))

theorem good_45 (hl : (shapeOf 45 s ks q).least ≤ ks.length) (hk : KF ks (shapeOf 45 s ks q)) : Good (.mk 45 s n 0 (stripL ks)) := by
  have e : shapeOf 45 s ks q = fx [11] := by simp [shapeOf, stmtShape]
  rw [e] at hl hk
  obtain ⟨t0, tr, rfl⟩ := kids1 (show 1 ≤ ks.length by have h : ((1 : Nat) : Int) ≤ ks.length := hl; omega)
  show Good (.mk 45 s n 0 (t0.strip :: stripL tr))
  exact goodB (by unfold isBk; omega) (CanB.of (bare_w_beh45 (beh_w_select (hk.B (j := 0) rfl rfl))))

theorem good_46 (hl : (shapeOf 46 s ks q).least ≤ ks.length) (hk : KF ks (shapeOf 46 s ks q)) : Good (.mk 46 s n 0 (stripL ks)) := by
  have e : shapeOf 46 s ks q = fx [11, 11] := by simp [shapeOf, stmtShape]
  rw [e] at hl hk
  obtain ⟨t0, t1, tr, rfl⟩ := kids2 (show 2 ≤ ks.length by have h : ((2 : Nat) : Int) ≤ ks.length := hl; omega)
  show Good (.mk 46 s n 0 (t0.strip :: t1.strip :: stripL tr))
  exact goodB (by unfold isBk; omega) (CanB.of (bare_w_beh46 (beh_w_index (hk.B (j := 0) rfl rfl) (hk.O (j := 1) rfl (.inl rfl)))))

theorem good_47 (hl : (shapeOf 47 s ks q).least ≤ ks.length) (hk : KF ks (shapeOf 47 s ks q)) : Good (.mk 47 s n 0 (stripL ks)) := by
  obtain ⟨a, ha, e⟩ : ∃ a : Int, (a = 29 ∨ a = 12) ∧ shapeOf 47 s ks q = fx [11, 12, 12, a] := by
    refine ⟨lastOf ks, ?_, by simp [shapeOf]⟩
    unfold lastOf
    split
    · exact .inl rfl
    · exact .inr rfl
  rw [e] at hl hk
  obtain ⟨t0, t1, t2, t3, tr, rfl⟩ := kids4 (show 4 ≤ ks.length by have h : ((4 : Nat) : Int) ≤ ks.length := hl; omega)
  show Good (.mk 47 s n 0 (t0.strip :: t1.strip :: t2.strip :: t3.strip :: stripL tr))
  by_cases h16 : t3.strip.kind = 16
  · exact goodB (by unfold isBk; omega) (CanB.of (bare_w_beh47 (beh_w_slice2 (hk.B (j := 0) rfl rfl) (hk.O (j := 1) rfl (.inr (.inl rfl))) (hk.O (j := 2) rfl (.inr (.inl rfl))) h16)))
  · have h3 : CanO t3.strip := hk.O (j := 3) rfl (ha.elim (fun h => .inr (.inr (.inl h))) (fun h => .inr (.inl h)))
    exact goodB (by unfold isBk; omega) (CanB.of (bare_w_beh47 (beh_w_slice3 (hk.B (j := 0) rfl rfl) (hk.O (j := 1) rfl (.inr (.inl rfl))) (hk.O (j := 2) rfl (.inr (.inl rfl))) h3 h16)))

theorem good_48 (hl : (shapeOf 48 s ks q).least ≤ ks.length) (hk : KF ks (shapeOf 48 s ks q)) : Good (.mk 48 s n 0 (stripL ks)) := by
  have e : shapeOf 48 s ks q = rwS 11 [18] := by simp [shapeOf, stmtShape]
  rw [e] at hl hk
  obtain ⟨t0, tr, rfl⟩ := kids1 (show 1 ≤ ks.length by have h : ((1 : Nat) : Int) ≤ ks.length := hl; omega)
  show Good (.mk 48 s n 0 (t0.strip :: stripL tr))
  exact goodB (by unfold isBk; omega) (CanB.of (bare_w_beh48 (beh_w_call (hk.B (j := 0) rfl rfl) (fun y hy => by obtain ⟨j, t, ht, rfl⟩ := strip_mem hy; exact hk.O (j := j + 1) ht (.inl (by rw [rw_at]; rfl))))))

theorem good_49 (hl : (shapeOf 49 s ks q).least ≤ ks.length) (hk : KF ks (shapeOf 49 s ks q)) : Good (.mk 49 s n 0 (stripL ks)) := by
  have e : shapeOf 49 s ks q = fx [11, 24] := by simp [shapeOf, stmtShape]
  rw [e] at hl hk
  obtain ⟨t0, t1, tr, rfl⟩ := kids2 (show 2 ≤ ks.length by have h : ((2 : Nat) : Int) ≤ ks.length := hl; omega)
  show Good (.mk 49 s n 0 (t0.strip :: t1.strip :: stripL tr))
  exact goodB (by unfold isBk; omega) (CanB.of (bare_w_beh49 (beh_w_assert (hk.B (j := 0) rfl rfl) (hk.B (j := 1) rfl rfl))))

theorem good_50 (hl : (shapeOf 50 s ks q).least ≤ ks.length) (hk : KF ks (shapeOf 50 s ks q)) : Good (.mk 50 s n 0 (stripL ks)) := by
  have e : shapeOf 50 s ks q = fx [11] := by simp [shapeOf, stmtShape]
  rw [e] at hl hk
  obtain ⟨t0, tr, rfl⟩ := kids1 (show 1 ≤ ks.length by have h : ((1 : Nat) : Int) ≤ ks.length := hl; omega)
  show Good (.mk 50 s n 0 (t0.strip :: stripL tr))
  exact goodB (by unfold isBk; omega) (CanB.of (bare_w_unary (hk.B (j := 0) rfl rfl)))

theorem good_51 (hl : (shapeOf 51 s ks q).least ≤ ks.length) (hk : KF ks (shapeOf 51 s ks q)) : Good (.mk 51 s n 0 (stripL ks)) := by
  have e : shapeOf 51 s ks q = fx [11, 11] := by simp [shapeOf, stmtShape]
  rw [e] at hl hk
  obtain ⟨t0, t1, tr, rfl⟩ := kids2 (show 2 ≤ ks.length by have h : ((2 : Nat) : Int) ≤ ks.length := hl; omega)
  show Good (.mk 51 s n 0 (t0.strip :: t1.strip :: stripL tr))
  exact goodB (by unfold isBk; omega) (CanB.of (bare_w_binary (hk.B (j := 0) rfl rfl) (hk.B (j := 1) rfl rfl)))

theorem good_14 : Good (.mk 14 s n 0 ks) := goodB (by unfold isBk; omega) (CanB.of bare_w_name)
theorem good_35 : Good (.mk 35 s n 0 ks) := goodB (by unfold isBk; omega) (CanB.of bare_w_int)
theorem good_36 : Good (.mk 36 s n 0 ks) := goodB (by unfold isBk; omega) (CanB.of bare_w_float)
theorem good_37 (h : s.size ≤ 65536) : Good (.mk 37 s n 0 ks) := goodB (by unfold isBk; omega) (CanB.of (bare_w_text h))
theorem good_31 : Good (.mk 31 s n 0 ks) := goodS (by unfold isSk; omega) (CanS.of stmt_break)
theorem good_32 : Good (.mk 32 s n 0 ks) := goodS (by unfold isSk; omega) (CanS.of stmt_continue)
theorem good_33 : Good (.mk 33 s n 0 ks) := goodS (by unfold isSk; omega) (CanS.of stmt_fall)
end

theorem may_range {k : Int} {s : ByteArray} {q : Int} (h : mayB k s q = true) : 1 ≤ k ∧ k ≤ 51 := by
  by_cases hq : 0 ≤ q ∧ q ≤ 29
  · have hd : q = 0 ∨ q = 1 ∨ q = 2 ∨ q = 3 ∨ q = 4 ∨ q = 5 ∨ q = 6 ∨ q = 7 ∨ q = 8 ∨ q = 9 ∨ q = 10 ∨ q = 11 ∨ q = 12 ∨ q = 13 ∨ q = 14 ∨ q = 15 ∨ q = 16 ∨ q = 17 ∨ q = 18 ∨ q = 19 ∨ q = 20 ∨ q = 21 ∨ q = 22 ∨ q = 23 ∨ q = 24 ∨ q = 25 ∨ q = 26 ∨ q = 27 ∨ q = 28 ∨ q = 29 := by omega
    clear hq
    rcases hd with rfl | rfl | rfl | rfl | rfl | rfl | rfl | rfl | rfl | rfl | rfl | rfl | rfl | rfl | rfl | rfl | rfl | rfl | rfl | rfl | rfl | rfl | rfl | rfl | rfl | rfl | rfl | rfl | rfl | rfl
    all_goals simp [mayB] at h
    all_goals first | omega | (rcases h with ((h | h) | h) | ⟨h, _⟩ <;> omega)
  · exfalso
    have n0 : ¬ q = 0 := by omega
    have n1 : ¬ q = 1 := by omega
    have n2 : ¬ q = 2 := by omega
    have n3 : ¬ q = 3 := by omega
    have n4 : ¬ q = 4 := by omega
    have n5 : ¬ q = 5 := by omega
    have n6 : ¬ q = 6 := by omega
    have n7 : ¬ q = 7 := by omega
    have n8 : ¬ q = 8 := by omega
    have n9 : ¬ q = 9 := by omega
    have n10 : ¬ q = 10 := by omega
    have n11 : ¬ q = 11 := by omega
    have n12 : ¬ q = 12 := by omega
    have n13 : ¬ q = 13 := by omega
    have n14 : ¬ q = 14 := by omega
    have n15 : ¬ q = 15 := by omega
    have n16 : ¬ q = 16 := by omega
    have n17 : ¬ q = 17 := by omega
    have n18 : ¬ q = 18 := by omega
    have n19 : ¬ q = 19 := by omega
    have n20 : ¬ q = 20 := by omega
    have n21 : ¬ q = 21 := by omega
    have n22 : ¬ q = 22 := by omega
    have n23 : ¬ q = 23 := by omega
    have n24 : ¬ q = 24 := by omega
    have n25 : ¬ q = 25 := by omega
    have n26 : ¬ q = 26 := by omega
    have n27 : ¬ q = 27 := by omega
    have n28 : ¬ q = 28 := by omega
    have n29 : ¬ q = 29 := by omega
    simp [mayB, n0, n1, n2, n3, n4, n5, n6, n7, n8, n9, n10, n11, n12, n13, n14, n15, n16, n17, n18, n19, n20, n21, n22, n23, n24, n25, n26, n27, n28, n29] at h
theorem good_any (iB fB : ByteArray → Bool) {k : Int} {s : ByteArray} {n q : Int} {ks : List Nd} (h1 : mayB k s q = true) (ht : textB iB fB k s q = true) (hn : numberB k n = true) (hl : (shapeOf k s ks q).least ≤ ks.length)
    (hm : 0 ≤ (shapeOf k s ks q).most → (ks.length : Int) ≤ (shapeOf k s ks q).most) (hk : KF ks (shapeOf k s ks q)) : Good (.mk k s n 0 (stripL ks)) := by
  obtain ⟨a1, a2⟩ := may_range h1
  have hd : k = 1 ∨ k = 2 ∨ k = 3 ∨ k = 4 ∨ k = 5 ∨ k = 6 ∨ k = 7 ∨ k = 8 ∨ k = 9 ∨ k = 10 ∨ k = 11 ∨ k = 12 ∨ k = 13 ∨ k = 14 ∨ k = 15 ∨ k = 16 ∨ k = 17 ∨ k = 18 ∨ k = 19 ∨ k = 20 ∨ k = 21 ∨ k = 22 ∨ k = 23 ∨ k = 24 ∨ k = 25 ∨ k = 26 ∨ k = 27 ∨ k = 28 ∨ k = 29 ∨ k = 30 ∨ k = 31 ∨ k = 32 ∨ k = 33 ∨ k = 34 ∨ k = 35 ∨ k = 36 ∨ k = 37 ∨ k = 38 ∨ k = 39 ∨ k = 40 ∨ k = 41 ∨ k = 42 ∨ k = 43 ∨ k = 44 ∨ k = 45 ∨ k = 46 ∨ k = 47 ∨ k = 48 ∨ k = 49 ∨ k = 50 ∨ k = 51 := by omega
  clear a1 a2 h1
  rcases hd with rfl | rfl | rfl | rfl | rfl | rfl | rfl | rfl | rfl | rfl | rfl | rfl | rfl | rfl | rfl | rfl | rfl | rfl | rfl | rfl | rfl | rfl | rfl | rfl | rfl | rfl | rfl | rfl | rfl | rfl | rfl | rfl | rfl | rfl | rfl | rfl | rfl | rfl | rfl | rfl | rfl | rfl | rfl | rfl | rfl | rfl | rfl | rfl | rfl | rfl | rfl
  · exact good_1 hl hk
  · exact good_2 hl hk
  · exact good_3 hl hk
  · exact good_4 hl hk
  · exact good_5 hl hk
  · exact good_6 hl hk
  · exact good_7 hl hk
  · exact goodN (by omega)
  · exact goodN (by omega)
  · exact goodN (by omega)
  · exact goodM rfl (by simp [numberB] at hn; omega)
  · exact good_12 hl hk
  · exact goodN (by omega)
  · exact good_14
  · exact good_15 hl hk
  · exact goodN (by omega)
  · exact good_17 hl hk
  · exact good_18 hl hk
  · exact good_19 hl hk
  · exact good_20 hl hk
  · exact good_21 hl hk
  · exact good_22 hl hk
  · exact good_23 hl hk
  · exact good_24 hl hk
  · exact good_25 hl hk
  · exact good_26 hl hk
  · exact good_27 hl hk
  · exact good_28 hl hk
  · exact good_29 hl hk
  · exact good_30 hl hk
  · exact good_31
  · exact good_32
  · exact good_33
  · exact good_34 hl hk
  · exact good_35
  · exact good_36
  · exact good_37 (by simp [textB] at ht; omega)
  · exact good_38 hk
  · exact good_39 hl hk
  · exact good_40 hl hm hk
  · exact good_41 hl hk
  · exact good_42 hl hk
  · exact good_43 hl hk
  · exact good_44 hl hk
  · exact good_45 hl hk
  · exact good_46 hl hk
  · exact good_47 hl hk
  · exact good_48 hl hk
  · exact good_49 hl hk
  · exact good_50 hl hk
  · exact good_51 hl hk


mutual
/-- What Right lets pass is printed. -/
theorem look_good (iB fB : ByteArray → Bool) : ∀ (t : Nd) (deep q seen : Int), (t.look iB fB deep q seen).2 = none → Good t.strip ∧ mayB t.kind t.text q = true
  | .mk k s n a ks, deep, q, seen, h => by
    unfold Nd.look at h
    split at h
    · cases h
    · split at h
      · cases h
      · split at h
        · cases h
        · rename_i h3
          split at h
          · cases h
          · rename_i h4
            split at h
            · cases h
            · rename_i h5
              have hk := lookL_good iB fB ks (shapeOf k s ks q) 0 deep 0 (seen + 1) h
              have hm : mayB k s q = true := by
                cases e : mayB k s q with
                | true => rfl
                | false => exact absurd (.inl e) h3
              have ht : textB iB fB k s q = true := by
                cases e : textB iB fB k s q with
                | true => rfl
                | false => exact absurd (.inr (.inl e)) h3
              have hn : numberB k n = true := by
                cases e : numberB k n with
                | true => rfl
                | false => exact absurd (.inr (.inr e)) h3
              refine ⟨good_any iB fB hm ht hn (by omega) (fun h0 => ?_) (fun j t hj => ?_), hm⟩
              · by_cases e : (shapeOf k s ks q).most < (ks.length : Int)
                · exact absurd ⟨h0, e⟩ h5
                · omega
              · have := hk j t hj
                rw [Nat.zero_add] at this
                exact this
theorem lookL_good (iB fB : ByteArray → Bool) : ∀ (ts : List Nd) (sh : Shp) (i : Nat) (deep d seen : Int), (lookL iB fB ts sh i deep d seen).2 = none → ∀ (j : Nat) (t : Nd), ts[j]? = some t → Good t.strip ∧ mayB t.kind t.text (sh.at_ (i + j)) = true
  | [], sh, i, deep, d, seen, _ => fun j t hj => by simp at hj
  | t :: ts, sh, i, deep, d, seen, h => fun j u hj => by
    unfold lookL at h
    split at h
    · cases h
    · split at h
      · cases h
      · rename_i x he
        cases j with
        | zero =>
          simp at hj
          subst hj
          have h1 := look_good iB fB t (deep + 1) (sh.at_ i) seen (by rw [he])
          rw [Nat.add_zero]
          exact h1
        | succ j =>
          have h2 := lookL_good iB fB ts sh (i + 1) deep _ x h j u (by simpa using hj)
          rw [show i + (j + 1) = i + 1 + j by omega]
          exact h2
end
end Go.Proofs.YtjpmghgmmeemkaaGreatDoor

namespace Go.Proofs.YtjpmghgmmeemkaaGreatDoor
open Go.RowKit

theorem good_whole (iB fB : ByteArray → Bool) (t : Nd) (h : (t.look iB fB 1 0 0).2 = none) : ∃ f, WholeIs t.strip f := by
  obtain ⟨hg, hm⟩ := look_good iB fB t 1 0 0 h
  have hr := may_range hm
  obtain ⟨k, s, n, a, ks⟩ := t
  change Good (.mk k s n 0 (stripL ks)) at hg
  change 1 ≤ k ∧ k ≤ 51 at hr
  change ∃ f, WholeIs (.mk k s n 0 (stripL ks)) f
  clear h hm
  by_cases h1 : k = 1
  · subst h1; exact ⟨_, whole_program (hg.P rfl)⟩
  by_cases h7 : k ≤ 7
  · exact ⟨_, whole_decl (by omega) h7 (hg.D ⟨(by omega : (2 : Int) ≤ k), h7⟩)⟩
  by_cases h11 : k ≤ 11
  · exact ⟨_, whole_member (by omega) h11 hg.M⟩
  by_cases h12 : k = 12
  · subst h12; exact ⟨_, whole_recv (hg.R rfl)⟩
  by_cases h13 : k = 13
  · subst h13; exact ⟨_, whole_names⟩
  by_cases h16 : k = 16
  · subst h16; exact ⟨_, whole_none⟩
  by_cases h27 : k = 27
  · subst h27; exact ⟨_, whole_case (hg.C rfl)⟩
  by_cases h40 : k = 40
  · subst h40; exact ⟨_, whole_pair ⟨hg.O, fun h => absurd rfl h⟩⟩
  by_cases hs : 17 ≤ k ∧ k ≤ 34
  · exact ⟨_, whole_stmt hs.1 hs.2 h27 (hg.S (show isSk k from ⟨hs.1, hs.2, h27⟩))⟩
  · exact ⟨_, whole_expr (by omega) (hg.B (show isBk k by unfold isBk; omega))⟩

open Classical in
/-- What whole writes of a tree up to its places, from nothing. -/
noncomputable def prF (c : Nd) : WX := if h : ∃ f, WholeIs c f then h.choose ([], false) else ([], false)
theorem prF_whole {c : Nd} (h : ∃ f, WholeIs c f) (t : Nd) (ht : t.strip = c) (v : Value) (bp : Nat) (w : World) (hp : PrAt bp [] false w) (hl : Lies w bp t v) :
    Calls Tryz.prog 31 #[.pointer (some ⟨bp, 0, none⟩), v] w (WrPost bp (prF c) w) := by
  unfold prF
  rw [dif_pos h]
  exact h.choose_spec t ht v ([], false) bp w hp (by simp) hl

/-- The text and what is wrong, of what Right says and of what whole writes. -/
def prOf : Option Wr → WX → ByteArray × Option Wr
  | some x, _ => (⟨#[]⟩, some x)
  | none, (_, true) => (⟨#[]⟩, some ⟨13, 0, ⟨#[]⟩⟩)
  | none, (out, false) => (⟨out.toArray⟩, none)
/-- What Print hands back: the text and what is wrong. -/
noncomputable def prRes (iB fB : ByteArray → Bool) (t : Nd) : ByteArray × Option Wr := prOf (t.look iB fB 1 0 0).2 (prF t.strip)
def PrintPost (w : World) (r : ByteArray × Option Wr) (e : Ending) (w' : World) : Prop :=
  Below w.heap.size w w' ∧
  ((r.2 = none ∧ e = .returned (.tuple #[.string r.1, .nilIface])) ∨ ∃ x b, r.2 = some x ∧ e = .returned (.tuple #[.string r.1, .iface 55 (.pointer (some ⟨b, 0, none⟩))]) ∧ w.heap.size ≤ b ∧ b < w'.heap.size ∧ WrongAt w' b x.code x.at_ x.name)

set_option maxHeartbeats 2000000 in
set_option maxRecDepth 100000 in
theorem String_0 (bp : Nat) (lg : Bool) (w : World) (h : PrAt bp [] lg w) :
    Calls Tryz.prog 32 #[.pointer (some ⟨bp, 0, none⟩)] w fun e w' => e = .returned (.string ⟨#[]⟩) ∧ Below bp w w' := by
  obtain ⟨p, v, hbk, hown⟩ : ∃ p, PrIs p bp [] lg w := h.elim (fun h => ⟨_, h⟩) (fun h => ⟨_, h⟩)
  rcases hown.2 with ⟨rfl, _⟩ | ⟨g, cap, cur, rfl, hbg, hg, hnc, hcm, hcs, htake⟩
  · have c1 : w.drew.cell? ⟨bp, 1, none⟩ = some (.slice none 0 0) := cell_of_row w _ 1 _ _ _ hbk
    have hSD : (Builtin.unsafeSliceData_ #[66] 108 #[.slice none 0 0]).run Tryz.prog w.drew = .ok (.pointer none) w.drew := Lib.run_unsafeSliceData_nil _ _ _ _ _
    have hUS : (Builtin.unsafeString_ #[108, 3] 9 #[.pointer none, .int .i64 0]).run Tryz.prog w.drew = .ok (.string ⟨#[]⟩) w.drew := Lib.run_unsafeString_none _ _ _ _ _
    go_enter Tryz.func32, Tryz.ntmps32
    go_wp2
    go_region
    all_goals (go_wp2; go_ret; exact ⟨rfl, Below.drew (Below.refl bp w)⟩)
  · have c1 : w.drew.cell? ⟨bp, 1, none⟩ = some (.slice (some ⟨g, 0, none⟩) 0 cap) := cell_of_row w _ 1 _ _ _ hbk
    by_cases h0 : cap = 0
    · subst h0
      have c2 : ∀ O, (w.alloc O).cell? ⟨bp, 1, none⟩ = some (.slice (some ⟨g, 0, none⟩) 0 0) := fun O => (World.cell?_alloc_lt _ _ _ h.lt).trans (cell_of_row w _ 1 _ _ _ hbk)
      have hSD : (Builtin.unsafeSliceData_ #[66] 108 #[.slice (some ⟨g, 0, none⟩) 0 0]).run Tryz.prog w.drew = .ok (.pointer (some ⟨w.drew.heap.size, 0, none⟩)) (w.drew.alloc (.view ⟨g, 0, none⟩ 5)) := by
        refine Lib.run_unsafeSliceData_zero w.drew _ _ 5 Tryz.underlying108 ⟨g, 0, none⟩ 0 (5, cur.size) ?_
        have hg' : w.drew.heap[g]? = some (.cells cur 5 (0, 0)) := hg
        simp [World.shape?, hg']
      have hUS : ∀ W q, (Builtin.unsafeString_ #[108, 3] 9 #[.pointer q, .int .i64 0]).run Tryz.prog W = .ok (.string ⟨#[]⟩) W := fun W q => Lib.run_unsafeString_none W _ _ _ q
      go_enter Tryz.func32, Tryz.ntmps32
      go_wp2
      go_region
      all_goals (go_wp2; go_ret; exact ⟨rfl, (Below.drew (Below.refl bp w)).alloc (by have := h.lt; exact Nat.le_of_lt this) _⟩)
    · have hSD : (Builtin.unsafeSliceData_ #[66] 108 #[.slice (some ⟨g, 0, none⟩) 0 cap]).run Tryz.prog w.drew = .ok (.pointer (some ⟨g, 0, none⟩)) w.drew := Lib.run_unsafeSliceData_row _ _ _ _ _ _ h0
      have hUS : (Builtin.unsafeString_ #[108, 3] 9 #[.pointer (some ⟨g, 0, none⟩), .int .i64 0]).run Tryz.prog w.drew = .ok (.string ⟨#[]⟩) w.drew := Lib.run_unsafeString_none _ _ _ _ _
      go_enter Tryz.func32, Tryz.ntmps32
      go_wp2
      go_region
      all_goals (go_wp2; go_ret; exact ⟨rfl, Below.drew (Below.refl bp w)⟩)
theorem String_any (bp : Nat) (bs : List UInt8) (lg : Bool) (w : World) (h : PrAt bp bs lg w) :
    Calls Tryz.prog 32 #[.pointer (some ⟨bp, 0, none⟩)] w fun e w' => e = .returned (.string ⟨bs.toArray⟩) ∧ Below bp w w' := by
  by_cases h0 : bs = []
  · subst h0; exact String_0 bp lg w h
  · exact String_p bp bs lg w h h0
end Go.Proofs.YtjpmghgmmeemkaaGreatDoor

namespace Go.Proofs.YtjpmghgmmeemkaaGreatDoor
open Go.RowKit

theorem wrongAt_alloc (w : World) (c a : Int) (nm : ByteArray) : WrongAt (w.alloc (.cells #[.int .i64 c, .int .i64 a, .string nm] 31 (0, 0))) w.heap.size c a nm := by
  have h := heap_alloc_new w (.cells #[.int .i64 c, .int .i64 a, .string nm] 31 (0, 0))
  exact ⟨cell_of_row _ _ 0 _ _ _ h, cell_of_row _ _ 1 _ _ _ h, cell_of_row _ _ 2 _ _ _ h, frozen_of_row _ _ 0 _ _ h, frozen_of_row _ _ 1 _ _ h, frozen_of_row _ _ 2 _ _ h⟩

set_option maxHeartbeats 4000000 in
set_option maxRecDepth 100000 in
theorem Print_any (iB fB : ByteArray → Bool) (t : Nd) (he : t.Each (NumsAt iB fB)) (v : Value) (w : World) (hgl : Gl w) (hl : Lies w w.heap.size t v) :
    Calls Tryz.prog 15 #[v] w (PrintPost w (prRes iB fB t)) := by
  have HWH := Lib.hid (fun h => prF_whole (good_whole iB fB t h) t rfl v)
  obtain ⟨R, HR⟩ : ∃ R, Hid ((t.look iB fB 1 0 0).2 = R) := ⟨_, rfl⟩
  obtain ⟨q, HQ⟩ : ∃ q, Hid (prF t.strip = q) := ⟨_, rfl⟩
  obtain ⟨out, lg⟩ := q
  have hres : prRes iB fB t = prOf R (out, lg) := by rw [prRes, HR.out, HQ.out]
  rw [hres]
  clear hres
  have hl2 := hl
  have hRight := fun W h1 h2 => Right_any iB fB t he v W h1 h2
  obtain ⟨k, s, n, a, ks⟩ := t
  unfold Lies at hl2
  obtain ⟨A, cap, rfl, _⟩ := hl2
  have hbel : Below w.heap.size w (w.alloc (.cells #[.int .i64 k, .string s, .int .i64 n, .int .i64 a, .slice A ks.length cap] 24 (0, 0))) := (Below.refl _ _).alloc (Nat.le_refl _) _
  have hR := hRight _ (hgl.up hbel) (hl.up hbel)
  rw [HR.out] at hR
  have HRC := Lib.hid hR
  have HL := Lib.hid hl
  have HB := Lib.hid hbel
  clear hR hl hgl he hbel hRight
  cases R with
  | some x =>
    rw [show prOf (some x) (out, lg) = (⟨#[]⟩, some x) from rfl]
    go_enter Tryz.func15, Tryz.ntmps15
    go_wp2_with (go_at_call 14; refine HRC.out.mono ?_; clear HRC; rintro e w1 ⟨hb1, hres⟩; obtain ⟨b, he, hb2, hb3, hw⟩ : ∃ b, e = .returned (.iface 55 (.pointer (some ⟨b, 0, none⟩))) ∧ w.heap.size + 1 ≤ b ∧ b < w1.heap.size ∧ WrongAt w1 b x.code x.at_ x.name := (by
        rcases hres with ⟨h, _⟩ | ⟨y, b, h, he, h2, h3, h4⟩
        · cases h
        · injection h with h
          subst h
          rw [World.size_alloc] at h2
          exact ⟨b, he, h2, h3, h4⟩); subst he; have HB1 := Lib.hid hb1; have HWR := Lib.hid hw; clear hb1 hw hres)
    go_ret2
    exact ⟨HB.out.trans (HB1.out.mono (by simp)), .inr ⟨x, b, rfl, rfl, by omega, hb3, HWR.out⟩⟩
  | none =>
    go_enter Tryz.func15, Tryz.ntmps15
    go_upto_region 6 with (first
      | (go_at_call 14; refine HRC.out.mono ?_; clear HRC
         rintro e w1 ⟨hb1, hres⟩
         obtain rfl : e = .returned .nilIface := by
           rcases hres with ⟨_, h⟩ | ⟨x, b, h, _⟩
           · exact h
           · cases h
         have hrow : w1.heap[w.heap.size]? = some (.cells #[.int .i64 k, .string s, .int .i64 n, .int .i64 a, .slice A ks.length cap] 24 (0, 0)) := (hb1.block _ (by simp)).trans (heap_alloc_new _ _)
         have hrow2 : ∀ O, (w1.alloc O).heap[w.heap.size]? = some (.cells #[.int .i64 k, .string s, .int .i64 n, .int .i64 a, .slice A ks.length cap] 24 (0, 0)) := fun O => (heap_alloc_old _ _ (Array.getElem?_eq_some_iff.1 hrow).1).trans hrow
         have d0 : ∀ O, (w1.alloc O).cell? ⟨w.heap.size, 0, none⟩ = some (.int .i64 k) := fun O => cell_of_row _ _ 0 _ _ _ (hrow2 O)
         have d1 : ∀ O, (w1.alloc O).cell? ⟨w.heap.size, 1, none⟩ = some (.string s) := fun O => cell_of_row _ _ 1 _ _ _ (hrow2 O)
         have d2 : ∀ O, (w1.alloc O).cell? ⟨w.heap.size, 2, none⟩ = some (.int .i64 n) := fun O => cell_of_row _ _ 2 _ _ _ (hrow2 O)
         have d3 : ∀ O, (w1.alloc O).cell? ⟨w.heap.size, 3, none⟩ = some (.int .i64 a) := fun O => cell_of_row _ _ 3 _ _ _ (hrow2 O)
         have d4 : ∀ O, (w1.alloc O).cell? ⟨w.heap.size, 4, none⟩ = some (.slice A ks.length cap) := fun O => cell_of_row _ _ 4 _ _ _ (hrow2 O)
         have hb2 : Below w.heap.size w (w1.alloc (.cells #[.pointer none, .slice none 0 0, .bool false] 70 (0, 0))) := (HB.out.trans (hb1.mono (by simp))).alloc (by have := hb1.size; simp at this; omega) _
         have hpr : PrAt w1.heap.size [] false (w1.alloc (.cells #[.pointer none, .slice none 0 0, .bool false] 70 (0, 0))) := .inl ⟨.slice none 0 0, heap_alloc_new _ _, World.ownsRow_nil _ _ _ _⟩
         have hw := HWH.out HR.out w1.heap.size _ hpr ((HL.out.below hb2).more (by have := hb1.size; simp at this; omega))
         rw [HQ.out] at hw
         have HW := Lib.hid hw
         have HB2 := Lib.hid hb2
         have hsz : w.heap.size < w1.heap.size := by have := hb1.size; simp at this; omega
         clear hw hpr hb2 hrow hrow2 hb1 hres)
      | (go_at_call 31; refine HW.out.mono ?_; clear HW
         rintro e w2 ⟨rfl, h1, h2, h3⟩
         have c2 := h1.long
         have HS := Lib.hid (String_any _ _ _ _ h1)
         have HP := Lib.hid h3
         have hs2 : w1.heap.size < w2.heap.size := h1.lt
         clear h1 h2 h3 d0 d1 d2 d3 d4))
    cases lg with
    | true =>
      rw [show prOf none (out, true) = (⟨#[]⟩, some ⟨13, 0, ⟨#[]⟩⟩) from rfl]
      go_wp2_with fail
      go_ret2
      have hbf : Below w.heap.size w w2 := HB2.out.trans (HP.out.below.mono (by omega))
      exact ⟨hbf.alloc (by omega) _, .inr ⟨⟨13, 0, ⟨#[]⟩⟩, w2.heap.size, rfl, rfl, by omega, by simp, wrongAt_alloc w2 13 0 ⟨#[]⟩⟩⟩
    | false =>
      rw [show prOf none (out, false) = (⟨out.toArray⟩, none) from rfl]
      go_wp2_with (go_at_call 32; refine HS.out.mono ?_; clear HS
                   rintro e w3 ⟨rfl, hb3⟩
                   have hbf : Below w.heap.size w w3 := (HB2.out.trans (HP.out.below.mono (by omega))).trans (hb3.mono (by omega))
                   clear hb3)
      go_ret2
      exact ⟨hbf, .inl ⟨rfl, rfl⟩⟩
end Go.Proofs.YtjpmghgmmeemkaaGreatDoor
