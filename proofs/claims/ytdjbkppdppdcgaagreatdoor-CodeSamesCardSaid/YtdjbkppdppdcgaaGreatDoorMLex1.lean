/- lex.letter, lex.digit, lex.Words, lex.Word, lex.Name: what each returns, at every text. Programs of code in plain form: the table of the operations, and what is right about a program. What is right about a program of code, in plain form: many, globals, heads, instructions, the stack. What container/heap does with a row of numbers: nothing comes, nothing goes. -/
import Derived.Lib.LaidTab
import Derived.Lib.Space
import Derived.Laws.RangeAny
import Derived.Great.Walk
import Derived.Test.YtdjbkppdppdcgaaGreatDoorCount
namespace Go.Proofs.YtdjbkppdppdcgaaGreatDoor
open Go.RowKit

def letterB (c : Int) : Bool := (decide (97 ≤ c) && decide (c ≤ 122)) || (decide (65 ≤ c) && decide (c ≤ 90)) || c == 95
def digitB (c : Int) : Bool := decide (48 ≤ c) && decide (c ≤ 57)

def wordsA : List ByteArray := [⟨#[97, 110, 121]⟩, ⟨#[98, 114, 101, 97, 107]⟩, ⟨#[99, 97, 115, 101]⟩, ⟨#[99, 111, 110, 116, 105, 110, 117, 101]⟩, ⟨#[100, 101, 102, 97, 117, 108, 116]⟩, ⟨#[100, 101, 102, 101, 114]⟩, ⟨#[101, 108, 115, 101]⟩, ⟨#[102, 97, 108, 108, 116, 104, 114, 111, 117, 103, 104]⟩, ⟨#[102, 97, 108, 115, 101]⟩, ⟨#[102, 111, 114]⟩, ⟨#[102, 117, 110, 99]⟩, ⟨#[105, 102]⟩, ⟨#[105, 110]⟩, ⟨#[109, 97, 112]⟩, ⟨#[110, 105, 108]⟩, ⟨#[112, 114, 111, 116, 111, 99, 111, 108]⟩, ⟨#[114, 101, 116, 117, 114, 110]⟩, ⟨#[115, 116, 114, 117, 99, 116]⟩, ⟨#[115, 119, 105, 116, 99, 104]⟩, ⟨#[116, 114, 117, 101]⟩, ⟨#[116, 121, 112, 101]⟩, ⟨#[118, 97, 114]⟩]
def wordsV : Array Value := #[.string ⟨#[97, 110, 121]⟩, .string ⟨#[98, 114, 101, 97, 107]⟩, .string ⟨#[99, 97, 115, 101]⟩, .string ⟨#[99, 111, 110, 116, 105, 110, 117, 101]⟩, .string ⟨#[100, 101, 102, 97, 117, 108, 116]⟩, .string ⟨#[100, 101, 102, 101, 114]⟩, .string ⟨#[101, 108, 115, 101]⟩, .string ⟨#[102, 97, 108, 108, 116, 104, 114, 111, 117, 103, 104]⟩, .string ⟨#[102, 97, 108, 115, 101]⟩, .string ⟨#[102, 111, 114]⟩, .string ⟨#[102, 117, 110, 99]⟩, .string ⟨#[105, 102]⟩, .string ⟨#[105, 110]⟩, .string ⟨#[109, 97, 112]⟩, .string ⟨#[110, 105, 108]⟩, .string ⟨#[112, 114, 111, 116, 111, 99, 111, 108]⟩, .string ⟨#[114, 101, 116, 117, 114, 110]⟩, .string ⟨#[115, 116, 114, 117, 99, 116]⟩, .string ⟨#[115, 119, 105, 116, 99, 104]⟩, .string ⟨#[116, 114, 117, 101]⟩, .string ⟨#[116, 121, 112, 101]⟩, .string ⟨#[118, 97, 114]⟩]

/-- The table strings.asciiSpace. -/
def spaceV : Array Value := (Lib.asciiSpaceTab.map fun z => Value.int .u8 z).toArray
def wordB (s : ByteArray) : Bool := wordsA.any (fun x => s.toList == x.toList)

/-! ### Name -/
def nameLoop : List UInt8 → Bool → Bool
  | [], _ => true
  | c :: r, first => if !letterB c.toNat && (first || !digitB c.toNat) then false else nameLoop r false
def nameB (s : ByteArray) : Bool := nameLoop s.data.toList true && (!s.data.toList.isEmpty && (decide (s.size ≤ 40) && !wordB s))

end Go.Proofs.YtdjbkppdppdcgaaGreatDoor

namespace Go.Proofs.YtdjbkppdppdcgaaGreatDoor

structure Ci where
  op : Int
  a : Int
  b : Int
  text : ByteArray
  at_ : Int
structure Cf where
  name : ByteArray
  params : Int
  slots : Int
  taken : List Int
  around : Int
  code : List Ci
structure Cp where
  funcs : List Cf
  globals : List ByteArray
structure Cform where
  word : List UInt8
  a : Nat
  text : Nat
  takes : List UInt8
  lays : List UInt8
def Cform.no : Cform := ⟨[], 0, 0, [], []⟩
def formsT : List Cform := [
⟨[], 0, 0, [], []⟩,
  ⟨[115, 116, 101, 112], 0, 0, [], []⟩,
  ⟨[116, 105, 99, 107], 0, 0, [], []⟩,
  ⟨[105, 110, 116], 0, 12, [], [118]⟩,
  ⟨[102, 108, 111, 97, 116], 0, 13, [], [118]⟩,
  ⟨[116, 101, 120, 116], 0, 14, [], [118]⟩,
  ⟨[98, 111, 111, 108], 1, 0, [], [118]⟩,
  ⟨[110, 105, 108], 0, 0, [], [118]⟩,
  ⟨[110, 105, 108, 111, 102], 1, 15, [], [118]⟩,
  ⟨[108, 111, 97, 100], 3, 0, [], [118]⟩,
  ⟨[103, 108, 111, 98, 97, 108], 4, 0, [], [118]⟩,
  ⟨[116, 97, 107, 101, 110], 5, 0, [], [118]⟩,
  ⟨[102, 114, 101, 115, 104], 3, 0, [118], []⟩,
  ⟨[115, 116, 111, 114, 101], 3, 0, [118], []⟩,
  ⟨[115, 116, 111, 114, 101, 103, 108, 111, 98, 97, 108], 4, 0, [118], []⟩,
  ⟨[115, 116, 111, 114, 101, 116, 97, 107, 101, 110], 5, 0, [118], []⟩,
  ⟨[112, 111, 112], 0, 0, [118], []⟩,
  ⟨[100, 117, 112], 0, 0, [118], [118, 118]⟩,
  ⟨[117, 110, 97, 114, 121], 0, 16, [118], [118]⟩,
  ⟨[98, 105, 110, 97, 114, 121], 0, 17, [118, 118], [118]⟩,
  ⟨[116, 114, 117, 116, 104], 0, 18, [118], [118]⟩,
  ⟨[99, 111, 110, 118, 101, 114, 116], 6, 19, [118], [118]⟩,
  ⟨[115, 101, 108, 101, 99, 116], 1, 20, [118], [118]⟩,
  ⟨[101, 120, 112, 114, 101, 115, 115, 105, 111, 110], 1, 21, [], [118]⟩,
  ⟨[105, 110, 100, 101, 120], 0, 0, [118, 118], [118]⟩,
  ⟨[105, 110, 100, 101, 120, 116, 119, 111], 0, 0, [118, 118], [118, 118]⟩,
  ⟨[115, 108, 105, 99, 101], 11, 0, [], [118]⟩,
  ⟨[108, 105, 115, 116], 7, 0, [], [118]⟩,
  ⟨[109, 97, 112], 7, 0, [], [118]⟩,
  ⟨[115, 116, 114, 117, 99, 116], 8, 22, [], [118]⟩,
  ⟨[111, 98, 106, 101, 99, 116], 0, 0, [118], [118]⟩,
  ⟨[108, 105, 116, 101, 114, 97, 108], 9, 0, [], [118]⟩,
  ⟨[97, 115, 115, 101, 114, 116], 1, 23, [118], [118]⟩,
  ⟨[104, 111, 108, 100, 115], 2, 23, [118], [118, 118]⟩,
  ⟨[106, 117, 109, 112], 10, 0, [], []⟩,
  ⟨[98, 114, 97, 110, 99, 104], 10, 0, [118], []⟩,
  ⟨[97, 110, 100], 10, 0, [118], []⟩,
  ⟨[111, 114], 10, 0, [118], []⟩,
  ⟨[112, 108, 97, 99, 101, 115, 108, 111, 116], 3, 0, [], [112]⟩,
  ⟨[112, 108, 97, 99, 101, 103, 108, 111, 98, 97, 108], 4, 0, [], [112]⟩,
  ⟨[112, 108, 97, 99, 101, 116, 97, 107, 101, 110], 5, 0, [], [112]⟩,
  ⟨[112, 108, 97, 99, 101, 111, 102], 0, 0, [118], [112]⟩,
  ⟨[112, 108, 97, 99, 101, 105, 110, 100, 101, 120], 0, 0, [118, 118], [112]⟩,
  ⟨[112, 108, 97, 99, 101, 102, 105, 101, 108, 100], 0, 20, [63], [112]⟩,
  ⟨[102, 101, 116, 99, 104], 0, 0, [112], [112, 118]⟩,
  ⟨[112, 117, 116], 0, 0, [112, 118], []⟩,
  ⟨[99, 97, 108, 108], 7, 0, [118], [118]⟩,
  ⟨[98, 117, 105, 108, 116], 7, 24, [], [118]⟩,
  ⟨[100, 101, 102, 101, 114], 7, 0, [118], []⟩,
  ⟨[100, 101, 102, 101, 114, 98, 117, 105, 108, 116], 7, 24, [], []⟩,
  ⟨[114, 101, 116, 117, 114, 110], 0, 0, [118], []⟩,
  ⟨[116, 117, 114, 110], 0, 0, [118], [116]⟩,
  ⟨[110, 101, 120, 116], 10, 0, [116], [116, 118, 118]⟩,
  ⟨[100, 114, 111, 112], 7, 0, [], []⟩]
def formOf (op : Int) : Cform := if 1 ≤ op ∧ op ≤ 53 then formsT.getD op.toNat .no else .no

/-- The first byte `.` parts a text. -/
def cutAt (c : UInt8) : List UInt8 → List UInt8 × Option (List UInt8)
  | [] => ([], none)
  | x :: r => if x = c then ([], some r) else (x :: (cutAt c r).1, (cutAt c r).2)
def nameL (s : List UInt8) : Bool := nameB ⟨⟨s⟩⟩
def declaredB (s : List UInt8) : Bool := match cutAt 46 s with
  | (t, none) => nameL t
  | (t, some m) => nameL t && nameL m
def typedB (s : List UInt8) (ptr any : Bool) : Bool := nameL s || (!ptr && (s == [109, 97, 112] || s == [102, 117, 110, 99] || (any && s == [97, 110, 121])))
def amongB (l : List (List UInt8)) (s : List UInt8) : Bool := !s.isEmpty && l.any (fun x => x == s)

def unaryW : List (List UInt8) := [[45], [33], [94], [42], [43, 43], [45, 45]]
def binaryW : List (List UInt8) := [[43], [45], [42], [47], [37], [38], [124], [94], [60, 60], [62, 62], [61, 61], [33, 61], [60], [60, 61], [62], [62, 61]]
def truthW : List (List UInt8) := [[38, 38], [124, 124]]
def builtW : List (List UInt8) := [[97, 112, 112, 101, 110, 100], [99, 97, 112], [99, 111, 112, 121], [100, 101, 108, 101, 116, 101], [108, 101, 110], [109, 97, 107, 101], [112, 97, 110, 105, 99], [112, 114, 105, 110, 116], [114, 101, 99, 111, 118, 101, 114], [115, 104, 111, 119], [116, 121, 112, 101, 111, 102]]
end Go.Proofs.YtdjbkppdppdcgaaGreatDoor

namespace Go.Proofs.YtdjbkppdppdcgaaGreatDoor

/-- The heads, from one on; `old`: the declared names so far. -/
def headedB (fs : List Cf) (i : Nat) (f : Cf) (old : List (List UInt8)) : Bool :=
  if f.params < 0 ∨ 13 < f.params ∨ f.slots < f.params then false
  else if i = 0 then f.name.data.toList == [] && (f.params == 0 && (f.taken.length == 0 && f.around == -1))
  else if f.around = -1 then f.taken.length == 0 && (declaredB f.name.data.toList && !old.contains f.name.data.toList)
  else if f.name.data.toList ≠ [102, 117, 110, 99] ∨ f.around < 0 ∨ (i : Int) ≤ f.around then false
  else match fs[f.around.toNat]? with
    | none => false
    | some o => f.taken.all fun t => decide (t < o.slots) && decide (-(o.taken.length : Int) ≤ t)

/-- How many things are taken off that an instruction's number tells. -/
def countedP (x : Ci) : UInt8 × Int :=
  if x.op = 27 ∨ x.op = 29 ∨ x.op = 46 ∨ x.op = 47 ∨ x.op = 48 ∨ x.op = 49 then (118, x.a)
  else if x.op = 28 then (118, 2 * x.a)
  else if x.op = 26 then (118, if x.b = 0 then x.a + 1 else if x.b = 3 then x.a - 1 else x.a)
  else if x.op = 53 then (116, x.a)
  else (118, 0)
def lessP (s : List UInt8) (c : UInt8) : Nat → Option (List UInt8)
  | 0 => some s
  | n + 1 => match s with
    | [] => none
    | t :: r => if t = c ∨ (c = 63 ∧ (t = 118 ∨ t = 112)) then lessP r c n else none
def takesP : List UInt8 → List UInt8 → Option (List UInt8)
  | s, [] => some s
  | s, c :: r => match lessP s c 1 with
    | none => none
    | some s' => takesP s' r
def laysP : List UInt8 → List UInt8 → Option (List UInt8)
  | s, [] => some s
  | s, c :: r => if 30000 < s.length + 1 then none else laysP (c :: s) r
def leavesP (x : Ci) (s : List UInt8) : Option (List UInt8 × List UInt8) :=
  match lessP s (countedP x).1 (countedP x).2.toNat with
  | none => none
  | some s1 => match takesP s1 (formOf x.op).takes.reverse with
    | none => none
    | some s2 => match laysP s2 (formOf x.op).lays with
      | none => none
      | some s3 => some (s3, if x.op = 36 ∨ x.op = 37 then 118 :: s2 else s2)

/-- The least number comes first: what container/heap does. -/
def swapL (l : List Int) (i j : Nat) : List Int := (l.set i (l.getD j 0)).set j (l.getD i 0)
def upL : Nat → List Int → Nat → List Int
  | 0, l, _ => l
  | f + 1, l, j => if (j - 1) / 2 = j ∨ ¬ l.getD j 0 < l.getD ((j - 1) / 2) 0 then l else upL f (swapL l ((j - 1) / 2) j) ((j - 1) / 2)
def downL : Nat → List Int → Nat → Nat → List Int
  | 0, l, _, _ => l
  | f + 1, l, i, n =>
    if n ≤ 2 * i + 1 then l
    else
      let j := if 2 * i + 2 < n ∧ l.getD (2 * i + 2) 0 < l.getD (2 * i + 1) 0 then 2 * i + 2 else 2 * i + 1
      if l.getD j 0 < l.getD i 0 then downL f (swapL l i j) j n else l
def pushL (l : List Int) (n : Int) : List Int := upL (l.length + 1) (l ++ [n]) l.length
def popL (l : List Int) : Int × List Int :=
  let l' := downL l.length (swapL l 0 (l.length - 1)) 0 (l.length - 1)
  (l'.getD (l.length - 1) 0, l'.take (l.length - 1))

structure Cst where
  at_ : List (Option (List UInt8))
  seen : List Bool
  todo : List Int
def handP (c : Cst) (k : Nat) (s : List UInt8) : Cst × Bool := match c.at_.getD k none with
  | none => ({ c with at_ := c.at_.set k (some s), todo := pushL c.todo k }, true)
  | some t => (c, t == s)
def goesB (op : Int) : Bool := (formOf op).a == 10
/-- One instruction is looked at: what is wrong, and what is handed on. -/
def roundP (code : List Ci) (c : Cst) (k : Nat) : Option Int × Cst := match code[k]?, c.at_.getD k none with
  | some x, some s => match leavesP x s with
    | none => (some k, c)
    | some (nx, th) =>
      let h1 := if x.op = 34 ∨ x.op = 50 then (c, true) else handP c (k + 1) nx
      if h1.2 = false then (some (k + 1), h1.1) else
      let h2 := if goesB x.op then handP h1.1 x.a.toNat th else (h1.1, true)
      if h2.2 = false then (some x.a, h2.1) else (none, h2.1)
  | _, _ => (none, c)
/-- The first instruction that doesn't fit the stack. -/
def fitsLoop (code : List Ci) : Nat → Cst → Option Int
  | 0, _ => none
  | f + 1, c => if c.todo = [] then none
    else if c.seen.getD (popL c.todo).1.toNat false then fitsLoop code f { c with todo := (popL c.todo).2 }
    else match roundP code { c with todo := (popL c.todo).2, seen := c.seen.set (popL c.todo).1.toNat true } (popL c.todo).1.toNat with
      | (some e, _) => some e
      | (none, c') => fitsLoop code f c'
def fitsP (code : List Ci) : Option Int := fitsLoop code (4 * code.length + 4) ⟨some [] :: List.replicate code.length none, List.replicate code.length false, [0]⟩
end Go.Proofs.YtdjbkppdppdcgaaGreatDoor

namespace Go.Proofs.YtdjbkppdppdcgaaGreatDoor

theorem getD_mem {l : List Int} {i : Nat} (h : i < l.length) : l.getD i 0 ∈ l := by
  rw [List.getD_eq_getElem?_getD, List.getElem?_eq_getElem h]
  exact List.getElem_mem h
theorem swap_len (l : List Int) (i j : Nat) : (swapL l i j).length = l.length := by simp [swapL]
theorem swap_mem {l : List Int} {i j : Nat} (hi : i < l.length) (hj : j < l.length) {x : Int} (h : x ∈ swapL l i j) : x ∈ l := by
  rcases List.mem_or_eq_of_mem_set h with h | h
  · rcases List.mem_or_eq_of_mem_set h with h | h
    · exact h
    · rw [h]; exact getD_mem hj
  · rw [h]; exact getD_mem hi
theorem up_mem : ∀ (f : Nat) (l : List Int) (j : Nat), j < l.length → (∀ x ∈ upL f l j, x ∈ l) ∧ (upL f l j).length = l.length
  | 0, l, j, _ => ⟨fun _ h => h, rfl⟩
  | f + 1, l, j, hj => by
    rw [upL]
    split
    · exact ⟨fun _ h => h, rfl⟩
    · obtain ⟨h1, h2⟩ := up_mem f (swapL l ((j - 1) / 2) j) ((j - 1) / 2) (by rw [swap_len]; omega)
      exact ⟨fun x hx => swap_mem (by omega) hj (h1 x hx), by rw [h2, swap_len]⟩
theorem down_mem : ∀ (f : Nat) (l : List Int) (i n : Nat), n ≤ l.length → (∀ x ∈ downL f l i n, x ∈ l) ∧ (downL f l i n).length = l.length
  | 0, l, i, n, _ => ⟨fun _ h => h, rfl⟩
  | f + 1, l, i, n, hn => by
    rw [downL]
    split
    · exact ⟨fun _ h => h, rfl⟩
    · rename_i h1
      simp only
      obtain ⟨j, hj⟩ : ∃ j, (if 2 * i + 2 < n ∧ l.getD (2 * i + 2) 0 < l.getD (2 * i + 1) 0 then 2 * i + 2 else 2 * i + 1) = j := ⟨_, rfl⟩
      have hjn : j < n := by rw [← hj]; split <;> omega
      rw [hj]
      by_cases hlt : l.getD j 0 < l.getD i 0
      · rw [if_pos hlt]
        obtain ⟨e1, e2⟩ := down_mem f (swapL l i j) j n (by rw [swap_len]; exact hn)
        exact ⟨fun x hx => swap_mem (by omega) (by omega) (e1 x hx), by rw [e2, swap_len]⟩
      · rw [if_neg hlt]
        exact ⟨fun _ h => h, rfl⟩
theorem push_mem (l : List Int) (n : Int) : (∀ x ∈ pushL l n, x ∈ l ∨ x = n) ∧ (pushL l n).length = l.length + 1 := by
  obtain ⟨h1, h2⟩ := up_mem (l.length + 1) (l ++ [n]) l.length (by simp)
  refine ⟨fun x hx => ?_, by rw [pushL, h2]; simp⟩
  have := h1 x hx
  simpa using this
theorem pop_mem {l : List Int} (h : l ≠ []) : (popL l).1 ∈ l ∧ (∀ x ∈ (popL l).2, x ∈ l) ∧ (popL l).2.length = l.length - 1 := by
  have h0 : 0 < l.length := List.length_pos_iff.2 h
  obtain ⟨h1, h2⟩ := down_mem l.length (swapL l 0 (l.length - 1)) 0 (l.length - 1) (by rw [swap_len]; omega)
  rw [swap_len] at h2
  have hs : ∀ x ∈ downL l.length (swapL l 0 (l.length - 1)) 0 (l.length - 1), x ∈ l := fun x hx => swap_mem h0 (by omega) (h1 x hx)
  refine ⟨hs _ (getD_mem (by rw [h2]; omega)), fun x hx => hs x (List.mem_of_mem_take hx), ?_⟩
  show (List.take (l.length - 1) _).length = _
  rw [List.length_take, h2]
  omega

/-- How many rounds the walk over instructions has at most. -/
def Cst.mu (c : Cst) : Nat := 3 * c.seen.count false + c.todo.length
theorem hand_todo (c : Cst) (k : Nat) (s : List UInt8) : (∀ x ∈ (handP c k s).1.todo, x ∈ c.todo ∨ x = (k : Int)) ∧ (handP c k s).1.todo.length ≤ c.todo.length + 1 ∧ (handP c k s).1.seen = c.seen ∧ (handP c k s).1.at_.length = c.at_.length := by
  unfold handP
  split
  · refine ⟨fun x hx => (push_mem _ _).1 x hx, by simp only; rw [(push_mem _ _).2]; exact Nat.le_refl _, rfl, by simp⟩
  · exact ⟨fun x hx => .inl hx, Nat.le_succ _, rfl, rfl⟩
/-- Where one was handed on something stands. -/
theorem hand_some (c : Cst) (k : Nat) (s : List UInt8) (j : Nat) (hj : c.at_.getD j none ≠ none ∨ (j = k ∧ k < c.at_.length)) : (handP c k s).1.at_.getD j none ≠ none := by
  unfold handP
  split
  · rename_i hn
    simp only
    rw [List.getD_eq_getElem?_getD, List.getElem?_set]
    by_cases hjk : k = j
    · subst hjk
      rw [if_pos rfl]
      split
      · simp
      · rename_i hlt
        rcases hj with hj | ⟨_, hj⟩
        · exact absurd hn hj
        · exact absurd hj hlt
    · rw [if_neg hjk, ← List.getD_eq_getElem?_getD]
      rcases hj with hj | ⟨hj, _⟩
      · exact hj
      · exact absurd hj.symm hjk
  · rename_i t ht
    rcases hj with hj | ⟨hj, _⟩
    · exact hj
    · subst hj; rw [ht]; simp
end Go.Proofs.YtdjbkppdppdcgaaGreatDoor
