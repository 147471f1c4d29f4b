/- lex.letter, lex.digit, lex.Words, lex.Word, lex.Name: what each returns, at every text. Programs of code in plain form: the table of the operations, and what is right about a program. What is right about a program of code, in plain form: many, globals, heads, instructions, the stack. -/
import Derived.Lib.LaidTab
import Derived.Lib.Space
import Derived.Laws.RangeAny
import Derived.Great.Walk
import Derived.Test.YtdjbkppdppdcgaaGreatDoorCount
namespace Go.Proofs.YtdjbkppdppdcgaaGreatDoor
open Go.RowKit

def letterB (c : Int) : Bool := (decide (97 ≤ c) && decide (c ≤ 122)) || (decide (65 ≤ c) && decide (c ≤ 90)) || c == 95
def digitB (c : Int) : Bool := decide (48 ≤ c) && decide (c ≤ 57)

def wordsA : List ByteArray := [⟨#[97, 110, 121]⟩, ⟨#[98, 114, 101, 97, 107]⟩, ⟨#[99, 97, 115, 101]⟩, ⟨#[99, 111, 110, 116, 105, 110, 117, 101]⟩, ⟨#[100, 101, 102, 97, 117, 108, 116]⟩, ⟨#[100, 101, 102, 101, 114]⟩, ⟨#[101, 108, 115, 101]⟩, ⟨#[102, 97, 108, 108, 116, 104, 114, 111, 117, 103, 104]⟩, ⟨#[102, 97, 108, 115, 101]⟩, ⟨#[102, 111, 114]⟩, ⟨#[102, 117, 110, 99]⟩, ⟨#[105, 102]⟩, ⟨#[105, 110]⟩, ⟨#[109, 97, 112]⟩, ⟨#[110, 105, 108]⟩, ⟨#[112, 114, 111, 116, 111, 99, 111, 108]⟩, ⟨#[114, 101, 116, 117, 114, 110]⟩, ⟨#[115, 116, 114, 117, 99, 116]⟩, ⟨#[115, 119, 105, 116, 99, 104]⟩, ⟨#[116, 114, 117, 101]⟩, ⟨#[116, 121, 112, 101]⟩, ⟨#[118, 97, 114]⟩]
def wordsV : Array Value := #[.string ⟨#[97, 110, 121]⟩, .string ⟨#[98, 114, 101, 97, 107]⟩, .string ⟨#[99, 97, 115, 101]⟩, .string ⟨#[99, 111, 110, 116, 105, 110, 117, 101]⟩, .string ⟨#[100, 101, 102, 97, 117, 108, 116]⟩, .string ⟨#[100, 101, 102, 101, 114]⟩, .string ⟨#[101, 108, 115, 101]⟩, .string ⟨#[102, 97, 108, 108, 116, 104, 114, 111, 117, 103, 104]⟩, .string ⟨#[102, 97, 108, 115, 101]⟩, .string ⟨#[102, 111, 114]⟩, .string ⟨#[102, 117, 110, 99]⟩, .string ⟨#[105, 102]⟩, .string ⟨#[105, 110]⟩, .string ⟨#[109, 97, 112]⟩, .string ⟨#[110, 105, 108]⟩, .string ⟨#[112, 114, 111, 116, 111, 99, 111, 108]⟩, .string ⟨#[114, 101, 116, 117, 114, 110]⟩, .string ⟨#[115, 116, 114, 117, 99, 116]⟩, .string ⟨#[115, 119, 105, 116, 99, 104]⟩, .string ⟨#[116, 114, 117, 101]⟩, .string ⟨#[116, 121, 112, 101]⟩, .string ⟨#[118, 97, 114]⟩]

/-- The table strings.asciiSpace. -/
def spaceV : Array Value := (Lib.asciiSpaceTab.map fun z => Value.int .u8 z).toArray
def wordB (s : ByteArray) : Bool := wordsA.any (fun x => s.toList == x.toList)

def idxFrom : List ByteArray → ByteArray → Int → Int
  | [], _, _ => -1
  | x :: xs, s, i => if s.toList == x.toList then i else idxFrom xs s (i + 1)
theorem idxFrom_word : ∀ (l : List ByteArray) (s : ByteArray) (i : Int), 0 ≤ i → decide (0 ≤ idxFrom l s i) = l.any (fun x => s.toList == x.toList)
  | [], s, i, _ => by simp [idxFrom]
  | x :: xs, s, i, hi => by
    unfold idxFrom
    have ih := idxFrom_word xs s (i + 1) (by omega)
    rw [List.any_cons]
    split
    · rename_i h
      rw [h]
      simp [hi]
    · rename_i h
      rw [ih]
      simp at h
      simp [h]

/-! ### Name -/
def nameLoop : List UInt8 → Bool → Bool
  | [], _ => true
  | c :: r, first => if !letterB c.toNat && (first || !digitB c.toNat) then false else nameLoop r false
def nameB (s : ByteArray) : Bool := nameLoop s.data.toList true && (!s.data.toList.isEmpty && (decide (s.size ≤ 40) && !wordB s))

theorem drop_byte (s : ByteArray) (pos : Nat) (h : pos < s.size) : s.data.toList.drop pos = (s[pos]'h) :: s.data.toList.drop (pos + 1) := by
  have h' : pos < s.data.toList.length := by simpa using h
  rw [List.drop_eq_getElem_cons h']
  rfl

theorem nameLoop_stop {c : UInt8} {r : List UInt8} {first : Bool} (h : letterB c.toNat = false) (h2 : first = true ∨ digitB c.toNat = false) : nameLoop (c :: r) first = false := by
  unfold nameLoop; rcases h2 with h2 | h2 <;> simp [h, h2]
theorem nameLoop_go {c : UInt8} {r : List UInt8} {first : Bool} (h : letterB c.toNat = true ∨ (first = false ∧ digitB c.toNat = true)) : nameLoop (c :: r) first = nameLoop r false := by
  rw [nameLoop, if_neg]; rcases h with h | ⟨h, h2⟩ <;> simp_all
theorem nameB_false {s : ByteArray} (h : nameLoop s.data.toList true = false) : nameB s = false := by simp [nameB, h]
theorem data_toList (s : ByteArray) : s.toList = s.data.toList := ByteArray.toList_eq s

theorem letter_high {c : Int} (h : 128 ≤ c) : letterB c = false := by simp [letterB]; omega
theorem digit_high {c : Int} (h : 128 ≤ c) : digitB c = false := by simp [digitB]; omega

end Go.Proofs.YtdjbkppdppdcgaaGreatDoor

namespace Go.Proofs.YtdjbkppdppdcgaaGreatDoor

structure Ci where
  op : Int
  a : Int
  b : Int
  text : ByteArray
  at_ : Int
structure Cf where
  name : ByteArray
  params : Int
  slots : Int
  taken : List Int
  around : Int
  code : List Ci
structure Cp where
  funcs : List Cf
  globals : List ByteArray
structure Cform where
  word : List UInt8
  a : Nat
  text : Nat
  takes : List UInt8
  lays : List UInt8
def Cform.no : Cform := ⟨[], 0, 0, [], []⟩
def formsT : List Cform := [
⟨[], 0, 0, [], []⟩,
  ⟨[115, 116, 101, 112], 0, 0, [], []⟩,
  ⟨[116, 105, 99, 107], 0, 0, [], []⟩,
  ⟨[105, 110, 116], 0, 12, [], [118]⟩,
  ⟨[102, 108, 111, 97, 116], 0, 13, [], [118]⟩,
  ⟨[116, 101, 120, 116], 0, 14, [], [118]⟩,
  ⟨[98, 111, 111, 108], 1, 0, [], [118]⟩,
  ⟨[110, 105, 108], 0, 0, [], [118]⟩,
  ⟨[110, 105, 108, 111, 102], 1, 15, [], [118]⟩,
  ⟨[108, 111, 97, 100], 3, 0, [], [118]⟩,
  ⟨[103, 108, 111, 98, 97, 108], 4, 0, [], [118]⟩,
  ⟨[116, 97, 107, 101, 110], 5, 0, [], [118]⟩,
  ⟨[102, 114, 101, 115, 104], 3, 0, [118], []⟩,
  ⟨[115, 116, 111, 114, 101], 3, 0, [118], []⟩,
  ⟨[115, 116, 111, 114, 101, 103, 108, 111, 98, 97, 108], 4, 0, [118], []⟩,
  ⟨[115, 116, 111, 114, 101, 116, 97, 107, 101, 110], 5, 0, [118], []⟩,
  ⟨[112, 111, 112], 0, 0, [118], []⟩,
  ⟨[100, 117, 112], 0, 0, [118], [118, 118]⟩,
  ⟨[117, 110, 97, 114, 121], 0, 16, [118], [118]⟩,
  ⟨[98, 105, 110, 97, 114, 121], 0, 17, [118, 118], [118]⟩,
  ⟨[116, 114, 117, 116, 104], 0, 18, [118], [118]⟩,
  ⟨[99, 111, 110, 118, 101, 114, 116], 6, 19, [118], [118]⟩,
  ⟨[115, 101, 108, 101, 99, 116], 1, 20, [118], [118]⟩,
  ⟨[101, 120, 112, 114, 101, 115, 115, 105, 111, 110], 1, 21, [], [118]⟩,
  ⟨[105, 110, 100, 101, 120], 0, 0, [118, 118], [118]⟩,
  ⟨[105, 110, 100, 101, 120, 116, 119, 111], 0, 0, [118, 118], [118, 118]⟩,
  ⟨[115, 108, 105, 99, 101], 11, 0, [], [118]⟩,
  ⟨[108, 105, 115, 116], 7, 0, [], [118]⟩,
  ⟨[109, 97, 112], 7, 0, [], [118]⟩,
  ⟨[115, 116, 114, 117, 99, 116], 8, 22, [], [118]⟩,
  ⟨[111, 98, 106, 101, 99, 116], 0, 0, [118], [118]⟩,
  ⟨[108, 105, 116, 101, 114, 97, 108], 9, 0, [], [118]⟩,
  ⟨[97, 115, 115, 101, 114, 116], 1, 23, [118], [118]⟩,
  ⟨[104, 111, 108, 100, 115], 2, 23, [118], [118, 118]⟩,
  ⟨[106, 117, 109, 112], 10, 0, [], []⟩,
  ⟨[98, 114, 97, 110, 99, 104], 10, 0, [118], []⟩,
  ⟨[97, 110, 100], 10, 0, [118], []⟩,
  ⟨[111, 114], 10, 0, [118], []⟩,
  ⟨[112, 108, 97, 99, 101, 115, 108, 111, 116], 3, 0, [], [112]⟩,
  ⟨[112, 108, 97, 99, 101, 103, 108, 111, 98, 97, 108], 4, 0, [], [112]⟩,
  ⟨[112, 108, 97, 99, 101, 116, 97, 107, 101, 110], 5, 0, [], [112]⟩,
  ⟨[112, 108, 97, 99, 101, 111, 102], 0, 0, [118], [112]⟩,
  ⟨[112, 108, 97, 99, 101, 105, 110, 100, 101, 120], 0, 0, [118, 118], [112]⟩,
  ⟨[112, 108, 97, 99, 101, 102, 105, 101, 108, 100], 0, 20, [63], [112]⟩,
  ⟨[102, 101, 116, 99, 104], 0, 0, [112], [112, 118]⟩,
  ⟨[112, 117, 116], 0, 0, [112, 118], []⟩,
  ⟨[99, 97, 108, 108], 7, 0, [118], [118]⟩,
  ⟨[98, 117, 105, 108, 116], 7, 24, [], [118]⟩,
  ⟨[100, 101, 102, 101, 114], 7, 0, [118], []⟩,
  ⟨[100, 101, 102, 101, 114, 98, 117, 105, 108, 116], 7, 24, [], []⟩,
  ⟨[114, 101, 116, 117, 114, 110], 0, 0, [118], []⟩,
  ⟨[116, 117, 114, 110], 0, 0, [118], [116]⟩,
  ⟨[110, 101, 120, 116], 10, 0, [116], [116, 118, 118]⟩,
  ⟨[100, 114, 111, 112], 7, 0, [], []⟩]
def formOf (op : Int) : Cform := if 1 ≤ op ∧ op ≤ 53 then formsT.getD op.toNat .no else .no

/-- The first byte `.` parts a text. -/
def cutAt (c : UInt8) : List UInt8 → List UInt8 × Option (List UInt8)
  | [] => ([], none)
  | x :: r => if x = c then ([], some r) else (x :: (cutAt c r).1, (cutAt c r).2)
def nameL (s : List UInt8) : Bool := nameB ⟨⟨s⟩⟩
def declaredB (s : List UInt8) : Bool := match cutAt 46 s with
  | (t, none) => nameL t
  | (t, some m) => nameL t && nameL m
def typedB (s : List UInt8) (ptr any : Bool) : Bool := nameL s || (!ptr && (s == [109, 97, 112] || s == [102, 117, 110, 99] || (any && s == [97, 110, 121])))
def amongB (l : List (List UInt8)) (s : List UInt8) : Bool := !s.isEmpty && l.any (fun x => x == s)

def unaryW : List (List UInt8) := [[45], [33], [94], [42], [43, 43], [45, 45]]
def binaryW : List (List UInt8) := [[43], [45], [42], [47], [37], [38], [124], [94], [60, 60], [62, 62], [61, 61], [33, 61], [60], [60, 61], [62], [62, 61]]
def truthW : List (List UInt8) := [[38, 38], [124, 124]]
def builtW : List (List UInt8) := [[97, 112, 112, 101, 110, 100], [99, 97, 112], [99, 111, 112, 121], [100, 101, 108, 101, 116, 101], [108, 101, 110], [109, 97, 107, 101], [112, 97, 110, 105, 99], [112, 114, 105, 110, 116], [114, 101, 99, 111, 118, 101, 114], [115, 104, 111, 119], [116, 121, 112, 101, 111, 102]]
end Go.Proofs.YtdjbkppdppdcgaaGreatDoor

namespace Go.Proofs.YtdjbkppdppdcgaaGreatDoor

/-- What is too many: the number of the function that is told. -/
def manySum : List Cf → Int
  | [] => 0
  | f :: r => manySum r + f.code.length
def manyFrom (l : List Cf) (i : Nat) : Option Nat := match l with
  | [] => none
  | f :: r => if 20000 < f.slots ∨ 20000 < f.taken.length then some i else manyFrom r (i + 1)
def globalsB : List (List UInt8) → List (List UInt8) → Bool
  | _, [] => true
  | old, s :: r => nameL s && !old.contains s && globalsB (s :: old) r
/-- The heads, from one on; `old`: the declared names so far. -/
def headedB (fs : List Cf) (i : Nat) (f : Cf) (old : List (List UInt8)) : Bool :=
  if f.params < 0 ∨ 13 < f.params ∨ f.slots < f.params then false
  else if i = 0 then f.name.data.toList == [] && (f.params == 0 && (f.taken.length == 0 && f.around == -1))
  else if f.around = -1 then f.taken.length == 0 && (declaredB f.name.data.toList && !old.contains f.name.data.toList)
  else if f.name.data.toList ≠ [102, 117, 110, 99] ∨ f.around < 0 ∨ (i : Int) ≤ f.around then false
  else match fs[f.around.toNat]? with
    | none => false
    | some o => f.taken.all fun t => decide (t < o.slots) && decide (-(o.taken.length : Int) ≤ t)

/-- How many things are taken off that an instruction's number tells. -/
def countedP (x : Ci) : UInt8 × Int :=
  if x.op = 27 ∨ x.op = 29 ∨ x.op = 46 ∨ x.op = 47 ∨ x.op = 48 ∨ x.op = 49 then (118, x.a)
  else if x.op = 28 then (118, 2 * x.a)
  else if x.op = 26 then (118, if x.b = 0 then x.a + 1 else if x.b = 3 then x.a - 1 else x.a)
  else if x.op = 53 then (116, x.a)
  else (118, 0)
def lessP (s : List UInt8) (c : UInt8) : Nat → Option (List UInt8)
  | 0 => some s
  | n + 1 => match s with
    | [] => none
    | t :: r => if t = c ∨ (c = 63 ∧ (t = 118 ∨ t = 112)) then lessP r c n else none
def takesP : List UInt8 → List UInt8 → Option (List UInt8)
  | s, [] => some s
  | s, c :: r => match lessP s c 1 with
    | none => none
    | some s' => takesP s' r
def laysP : List UInt8 → List UInt8 → Option (List UInt8)
  | s, [] => some s
  | s, c :: r => if 30000 < s.length + 1 then none else laysP (c :: s) r
def leavesP (x : Ci) (s : List UInt8) : Option (List UInt8 × List UInt8) :=
  match lessP s (countedP x).1 (countedP x).2.toNat with
  | none => none
  | some s1 => match takesP s1 (formOf x.op).takes.reverse with
    | none => none
    | some s2 => match laysP s2 (formOf x.op).lays with
      | none => none
      | some s3 => some (s3, if x.op = 36 ∨ x.op = 37 then 118 :: s2 else s2)

/-- The least number comes first: what container/heap does. -/
def swapL (l : List Int) (i j : Nat) : List Int := (l.set i (l.getD j 0)).set j (l.getD i 0)
def upL : Nat → List Int → Nat → List Int
  | 0, l, _ => l
  | f + 1, l, j => if (j - 1) / 2 = j ∨ ¬ l.getD j 0 < l.getD ((j - 1) / 2) 0 then l else upL f (swapL l ((j - 1) / 2) j) ((j - 1) / 2)
def downL : Nat → List Int → Nat → Nat → List Int
  | 0, l, _, _ => l
  | f + 1, l, i, n =>
    if n ≤ 2 * i + 1 then l
    else
      let j := if 2 * i + 2 < n ∧ l.getD (2 * i + 2) 0 < l.getD (2 * i + 1) 0 then 2 * i + 2 else 2 * i + 1
      if l.getD j 0 < l.getD i 0 then downL f (swapL l i j) j n else l
def pushL (l : List Int) (n : Int) : List Int := upL (l.length + 1) (l ++ [n]) l.length
def popL (l : List Int) : Int × List Int :=
  let l' := downL l.length (swapL l 0 (l.length - 1)) 0 (l.length - 1)
  (l'.getD (l.length - 1) 0, l'.take (l.length - 1))

structure Cst where
  at_ : List (Option (List UInt8))
  seen : List Bool
  todo : List Int
def handP (c : Cst) (k : Nat) (s : List UInt8) : Cst × Bool := match c.at_.getD k none with
  | none => ({ c with at_ := c.at_.set k (some s), todo := pushL c.todo k }, true)
  | some t => (c, t == s)
def goesB (op : Int) : Bool := (formOf op).a == 10
/-- One instruction is looked at: what is wrong, and what is handed on. -/
def roundP (code : List Ci) (c : Cst) (k : Nat) : Option Int × Cst := match code[k]?, c.at_.getD k none with
  | some x, some s => match leavesP x s with
    | none => (some k, c)
    | some (nx, th) =>
      let h1 := if x.op = 34 ∨ x.op = 50 then (c, true) else handP c (k + 1) nx
      if h1.2 = false then (some (k + 1), h1.1) else
      let h2 := if goesB x.op then handP h1.1 x.a.toNat th else (h1.1, true)
      if h2.2 = false then (some x.a, h2.1) else (none, h2.1)
  | _, _ => (none, c)
/-- The first instruction that doesn't fit the stack. -/
def fitsLoop (code : List Ci) : Nat → Cst → Option Int
  | 0, _ => none
  | f + 1, c => if c.todo = [] then none
    else if c.seen.getD (popL c.todo).1.toNat false then fitsLoop code f { c with todo := (popL c.todo).2 }
    else match roundP code { c with todo := (popL c.todo).2, seen := c.seen.set (popL c.todo).1.toNat true } (popL c.todo).1.toNat with
      | (some e, _) => some e
      | (none, c') => fitsLoop code f c'
def fitsP (code : List Ci) : Option Int := fitsLoop code (4 * code.length + 4) ⟨some [] :: List.replicate code.length none, List.replicate code.length false, [0]⟩
end Go.Proofs.YtdjbkppdppdcgaaGreatDoor
