/- lex.letter, lex.digit, lex.Words, lex.Word, lex.Name: what each returns, at every text. lex.run at every text; lex.wrong; the text 01: lex.number, lex.one, lex.Scan, tree.ints. The printer: its strings.Builder (copyCheck, WriteString, Len, String); put. -/
import Derived.Lib.LaidTab
import Derived.Lib.Space
import Derived.Laws.RangeAny
import Derived.Great.Walk
import Derived.Lib.AppendStr
import Derived.Lib.OthersKept
import Derived.Lib.Builder
import Derived.Lib.UnsafeStr
import Derived.Test.YtokhfhibdeneeaaGreatDoorCount
namespace Go.Proofs.YtokhfhibdeneeaaGreatDoor
open Go.RowKit

def letterB (c : Int) : Bool := (decide (97 ≤ c) && decide (c ≤ 122)) || (decide (65 ≤ c) && decide (c ≤ 90)) || c == 95
def digitB (c : Int) : Bool := decide (48 ≤ c) && decide (c ≤ 57)

theorem letter_any (c : Int) (w : World) : Calls Tryz.prog 60 #[.int .i32 c] w fun e w' => e = .returned (.bool (letterB c)) ∧ w' = w := by
  have HF : Hid (letterB c = ((decide (97 ≤ c) && decide (c ≤ 122)) || (decide (65 ≤ c) && decide (c ≤ 90)) || c == 95)) := rfl
  go_enter Tryz.func60, Tryz.ntmps60
  go_wp2
  all_goals
    go_ret
    exact ⟨ret_bool (by rw [HF.out]; try (first | (simp [*]; done) | (simp [*]; omega) | (rw [Bool.eq_iff_iff]; simp; omega) | (rw [Bool.eq_iff_iff]; simp [*]; omega))), rfl⟩

theorem digit_any (c : Int) (w : World) : Calls Tryz.prog 58 #[.int .i32 c] w fun e w' => e = .returned (.bool (digitB c)) ∧ w' = w := by
  have HF : Hid (digitB c = (decide (48 ≤ c) && decide (c ≤ 57))) := rfl
  go_enter Tryz.func58, Tryz.ntmps58
  go_wp2
  all_goals
    go_ret
    exact ⟨ret_bool (by rw [HF.out]; try (first | (simp [*]; done) | (simp [*]; omega) | (rw [Bool.eq_iff_iff]; simp; omega) | (rw [Bool.eq_iff_iff]; simp [*]; omega))), rfl⟩

def wordsA : List ByteArray := [⟨#[97, 110, 121]⟩, ⟨#[98, 114, 101, 97, 107]⟩, ⟨#[99, 97, 115, 101]⟩, ⟨#[99, 111, 110, 116, 105, 110, 117, 101]⟩, ⟨#[100, 101, 102, 97, 117, 108, 116]⟩, ⟨#[100, 101, 102, 101, 114]⟩, ⟨#[101, 108, 115, 101]⟩, ⟨#[102, 97, 108, 108, 116, 104, 114, 111, 117, 103, 104]⟩, ⟨#[102, 97, 108, 115, 101]⟩, ⟨#[102, 111, 114]⟩, ⟨#[102, 117, 110, 99]⟩, ⟨#[105, 102]⟩, ⟨#[105, 110]⟩, ⟨#[109, 97, 112]⟩, ⟨#[110, 105, 108]⟩, ⟨#[112, 114, 111, 116, 111, 99, 111, 108]⟩, ⟨#[114, 101, 116, 117, 114, 110]⟩, ⟨#[115, 116, 114, 117, 99, 116]⟩, ⟨#[115, 119, 105, 116, 99, 104]⟩, ⟨#[116, 114, 117, 101]⟩, ⟨#[116, 121, 112, 101]⟩, ⟨#[118, 97, 114]⟩]
def wordsV : Array Value := #[.string ⟨#[97, 110, 121]⟩, .string ⟨#[98, 114, 101, 97, 107]⟩, .string ⟨#[99, 97, 115, 101]⟩, .string ⟨#[99, 111, 110, 116, 105, 110, 117, 101]⟩, .string ⟨#[100, 101, 102, 97, 117, 108, 116]⟩, .string ⟨#[100, 101, 102, 101, 114]⟩, .string ⟨#[101, 108, 115, 101]⟩, .string ⟨#[102, 97, 108, 108, 116, 104, 114, 111, 117, 103, 104]⟩, .string ⟨#[102, 97, 108, 115, 101]⟩, .string ⟨#[102, 111, 114]⟩, .string ⟨#[102, 117, 110, 99]⟩, .string ⟨#[105, 102]⟩, .string ⟨#[105, 110]⟩, .string ⟨#[109, 97, 112]⟩, .string ⟨#[110, 105, 108]⟩, .string ⟨#[112, 114, 111, 116, 111, 99, 111, 108]⟩, .string ⟨#[114, 101, 116, 117, 114, 110]⟩, .string ⟨#[115, 116, 114, 117, 99, 116]⟩, .string ⟨#[115, 119, 105, 116, 99, 104]⟩, .string ⟨#[116, 114, 117, 101]⟩, .string ⟨#[116, 121, 112, 101]⟩, .string ⟨#[118, 97, 114]⟩]

/-- The table strings.asciiSpace. -/
def spaceV : Array Value := (Lib.asciiSpaceTab.map fun z => Value.int .u8 z).toArray
/-- The package-level variables that the code reads: lex.words, strings.asciiSpace; bytealg.MaxLen. -/
def Gl (w : World) : Prop := ((∃ t fr, w.heap[1]? = some (.cells wordsV t fr)) ∧ ∃ t fr, w.heap[2]? = some (.cells spaceV t fr)) ∧ (∃ m, w.cell? ⟨0, 0, none⟩ = some (.int .i64 m)) ∧ 5 ≤ w.heap.size
theorem Gl.below {w w' : World} {B : Nat} (h : Gl w) (hB : 5 ≤ B) (hb : Below B w w') : Gl w' := by
  obtain ⟨⟨⟨t, fr, h1⟩, t', fr', h4⟩, ⟨m, h2⟩, h3⟩ := h
  refine ⟨⟨⟨t, fr, ?_⟩, t', fr', ?_⟩, ⟨m, ?_⟩, Nat.le_trans h3 hb.size⟩
  · rw [hb.block _ (by omega)]; exact h1
  · rw [hb.block _ (by omega)]; exact h4
  · rw [hb.cell (p := ⟨0, 0, none⟩) (show 0 < B by omega)]; exact h2
theorem Gl.up {w w' : World} (h : Gl w) (hb : Below w.heap.size w w') : Gl w' := h.below h.2.2 hb

def wordB (s : ByteArray) : Bool := wordsA.any (fun x => s.toList == x.toList)

set_option maxRecDepth 100000 in
theorem Words_any (w : World) (h : Gl w) : Calls Tryz.prog 109 #[] w fun e w' => e = .returned (.slice (some ⟨w.heap.size, 0, none⟩) 22 22) ∧ Below w.heap.size w w' ∧ ∃ t fr, w'.heap[w.heap.size]? = some (.cells wordsV t fr) := by
  obtain ⟨⟨⟨t, fr, h1⟩, _⟩, _, _⟩ := h
  have H1 := Lib.hid h1
  clear h1
  go_enter Tryz.func109, Tryz.ntmps109
  refine wp_seq_k fun K0 hK0 => ?_
  apply wp_region_lit
  refine Great.wpList_readTo rfl (some 0) rfl (.slice none 0 0) (by kernel_rfl) ?_
  apply wpList_nil
  refine hK0 _ _ ?_
  refine wp_seq_k fun K1 hK1 => ?_
  apply wp_region_lit
  refine wpList_load_row rfl 162 _ rfl 1 rfl t wordsV fr _ H1.out Tryz.underlying162 rfl (by kernel_rfl) ?_
  refine Great.wpList_allocTo rfl (some 1) rfl (.pointer (some ⟨w.heap.size, 0, none⟩)) (.cells (Array.replicate 22 (.string ⟨#[]⟩)) 162) (by kernel_rfl) ?_
  refine wpList_store_row rfl 162 _ _ rfl w.heap.size wordsV ?_ ?_ 162 _ (heap_alloc_new w _) (by kernel_rfl) (by simp [wordsV]) (by kernel_rfl) ?_
  · rfl
  · rfl
  apply wpList_nil
  refine hK1 _ _ ?_
  go_wp2
  go_ret
  refine ⟨rfl, ?_, _, _, setRow_heap _ _ _ _ _ _ (heap_alloc_new w _)⟩
  exact ((Below.refl _ _).alloc (Nat.le_refl _) _).trans ⟨rfl, rfl, rfl, by simp, fun k hk => setRow_other _ _ _ _ (by omega)⟩

def idxFrom : List ByteArray → ByteArray → Int → Int
  | [], _, _ => -1
  | x :: xs, s, i => if s.toList == x.toList then i else idxFrom xs s (i + 1)
theorem idxFrom_word : ∀ (l : List ByteArray) (s : ByteArray) (i : Int), 0 ≤ i → decide (0 ≤ idxFrom l s i) = l.any (fun x => s.toList == x.toList)
  | [], s, i, _ => by simp [idxFrom]
  | x :: xs, s, i, hi => by
    unfold idxFrom
    have ih := idxFrom_word xs s (i + 1) (by omega)
    rw [List.any_cons]
    split
    · rename_i h
      rw [h]
      simp [hi]
    · rename_i h
      rw [ih]
      simp at h
      simp [h]

set_option maxRecDepth 100000 in
theorem Index_words (b : Nat) (t : TypeId) (fr : Nat × Nat) (s : ByteArray) (w : World) (hrow : w.heap[b]? = some (.cells wordsV t fr)) :
    Calls Tryz.prog 171 #[.slice (some ⟨b, 0, none⟩) 22 22, .string s] w fun e w' => e = .returned (.int .i64 (idxFrom wordsA s 0)) ∧ w' = w := by
  have hcell : ∀ (j : Nat) (x : ByteArray), wordsA[j]? = some x → w.cell? ⟨b, j, none⟩ = some (.string x) := fun j x hj => by
    rw [cell_of_row w b j _ _ _ hrow]
    have hv : wordsV = (wordsA.map Value.string).toArray := rfl
    rw [hv]
    simp [hj]
  have HC := Lib.hid hcell
  clear hcell hrow
  have hlen : wordsA.length = 22 := by decide
  have HL := Lib.hid hlen
  clear hlen
  go_enter Tryz.func171, Tryz.ntmps171
  go_wp2
  go_loopw [8] (fun i wr => ∃ j : Nat, j ≤ 22 ∧ i = .int .i64 j ∧ wr = w ∧ Hid (idxFrom (wordsA.drop j) s j = idxFrom wordsA s 0)) (fun i _ => 22 - (intOf i).toNat)
  case atStart => exact ⟨0, by omega, rfl, rfl, rfl⟩
  case round =>
    obtain ⟨j, hj, rfl, rfl, HI⟩ := hrel
    by_cases hlt : j < 22
    · obtain ⟨x, hx⟩ : ∃ x, wordsA[j]? = some x := ⟨_, List.getElem?_eq_getElem (by rw [HL.out]; exact hlt)⟩
      have hc := HC.out j x hx
      have HX := Lib.hid hx
      clear hx
      go_wp2
      · go_ret
        refine ⟨ret_int ?_, rfl⟩
        rw [← HI.out, drop_cons HX.out, idxFrom, if_pos (by assumption)]
      · go_roundw
        case rel =>
          refine ⟨j + 1, by omega, by simp, trivial, ?_⟩
          show _ = _
          rw [← HI.out, drop_cons HX.out, idxFrom, if_neg (by simp [*])]
          simp
        case measure => simp [intOf]; omega
    · obtain rfl : j = 22 := by omega
      go_wp2
      go_ret
      refine ⟨ret_int ?_, rfl⟩
      rw [← HI.out, List.drop_of_length_le (by rw [HL.out]; exact Nat.le_refl _)]
      rfl

theorem Contains_words (b : Nat) (t : TypeId) (fr : Nat × Nat) (s : ByteArray) (w : World) (hrow : w.heap[b]? = some (.cells wordsV t fr)) :
    Calls Tryz.prog 108 #[.slice (some ⟨b, 0, none⟩) 22 22, .string s] w fun e w' => e = .returned (.bool (wordB s)) ∧ w' = w := by
  have HR := Lib.hid hrow
  clear hrow
  have HW : Hid (decide (0 ≤ idxFrom wordsA s 0) = wordB s) := idxFrom_word _ _ _ (Int.le_refl _)
  go_enter Tryz.func108, Tryz.ntmps108
  go_wp2_with (go_at_call 171; refine (Index_words b t fr s _ HR.out).mono ?_; rintro e w' ⟨rfl, rfl⟩)
  go_ret
  exact ⟨ret_bool HW.out, rfl⟩

theorem Word_any (s : ByteArray) (w : World) (h : Gl w) : Calls Tryz.prog 62 #[.string s] w fun e w' => e = .returned (.bool (wordB s)) ∧ Below w.heap.size w w' := by
  have H := Lib.hid h
  clear h
  go_enter Tryz.func62, Tryz.ntmps62
  go_wp2_with (first
    | (go_at_call 109; refine (Words_any _ H.out).mono ?_; rintro e w' ⟨rfl, hb, t, fr, hrow⟩)
    | (go_at_call 108; refine (Contains_words _ t fr s _ hrow).mono ?_; rintro e w'' ⟨rfl, rfl⟩))
  go_ret
  exact ⟨rfl, hb⟩

/-! ### Name -/
def nameLoop : List UInt8 → Bool → Bool
  | [], _ => true
  | c :: r, first => if !letterB c.toNat && (first || !digitB c.toNat) then false else nameLoop r false
def nameB (s : ByteArray) : Bool := nameLoop s.data.toList true && (!s.data.toList.isEmpty && (decide (s.size ≤ 40) && !wordB s))

theorem drop_byte (s : ByteArray) (pos : Nat) (h : pos < s.size) : s.data.toList.drop pos = (s[pos]'h) :: s.data.toList.drop (pos + 1) := by
  have h' : pos < s.data.toList.length := by simpa using h
  rw [List.drop_eq_getElem_cons h']
  rfl

theorem nameLoop_stop {c : UInt8} {r : List UInt8} {first : Bool} (h : letterB c.toNat = false) (h2 : first = true ∨ digitB c.toNat = false) : nameLoop (c :: r) first = false := by
  unfold nameLoop; rcases h2 with h2 | h2 <;> simp [h, h2]
theorem nameLoop_go {c : UInt8} {r : List UInt8} {first : Bool} (h : letterB c.toNat = true ∨ (first = false ∧ digitB c.toNat = true)) : nameLoop (c :: r) first = nameLoop r false := by
  rw [nameLoop, if_neg]; rcases h with h | ⟨h, h2⟩ <;> simp_all
theorem nameB_false {s : ByteArray} (h : nameLoop s.data.toList true = false) : nameB s = false := by simp [nameB, h]
theorem data_toList (s : ByteArray) : s.toList = s.data.toList := ByteArray.toList_eq s

theorem letter_high {c : Int} (h : 128 ≤ c) : letterB c = false := by simp [letterB]; omega
theorem digit_high {c : Int} (h : 128 ≤ c) : digitB c = false := by simp [digitB]; omega

set_option maxRecDepth 100000 in
set_option maxHeartbeats 1000000 in
theorem Name_any (s : ByteArray) (w : World) (h : Gl w) (hs : s.size ≤ 140737488351232) : Calls Tryz.prog 174 #[.string s] w fun e w' => e = .returned (.bool (nameB s)) ∧ Below w.heap.size w w' := by
  have H := Lib.hid h
  have HN : Hid (nameB s = (nameLoop s.data.toList true && (!s.data.toList.isEmpty && (decide (s.size ≤ 40) && !wordB s)))) := rfl
  clear h
  go_enter Tryz.func174, Tryz.ntmps174
  go_wp2
  go_loopw [2] (fun v wr => v = .bool false ∧ ∃ pos : Nat, wr = w.iter s pos ∧ pos ≤ s.size ∧ Hid (nameLoop (s.data.toList.drop pos) (pos == 0) = nameLoop s.data.toList true)) (fun _ wr => s.size - wr.iterPos w.heap.size)
  case atStart => exact ⟨rfl, 0, rfl, Nat.zero_le _, rfl⟩
  case round =>
    obtain ⟨rfl, pos, rfl, hle, HI⟩ := hrel
    by_cases hp : pos < s.size
    · have hd := Lib.hid (drop_byte s pos hp)
      by_cases ha : (s[pos]'hp).toNat < 128
      · have hnx := fun ty => run_next_ascii (P := Tryz.prog) w s pos ty hp ha
        obtain ⟨c, HC⟩ : ∃ c : Nat, Hid ((s[pos]'hp).toNat = c) := ⟨_, rfl⟩
        rw [HC.out] at hnx
        go_wp2_with (first
          | (go_at_call 60; refine (letter_any _ _).mono ?_; rintro e w' ⟨rfl, rfl⟩)
          | (go_at_call 58; refine (digit_any _ _).mono ?_; rintro e w' ⟨rfl, rfl⟩))
        all_goals first
          | (go_roundw
             case rel =>
               refine ⟨by trivial, pos + 1, rfl, by omega, ?_⟩
               show _ = _
               rw [← HI.out, hd.out, nameLoop_go]
               · rfl
               · rw [HC.out]; simp_all
             case measure => simp; omega)
          | (go_ret
             refine ⟨ret_bool ?_, (Below.refl _ _).alloc (Nat.le_refl _) _⟩
             refine (nameB_false ?_).symm
             rw [← HI.out, hd.out, nameLoop_stop]
             · rw [HC.out]; simp_all
             · rw [HC.out]; simp_all)
      · have hnx := fun ty => run_next_any (P := Tryz.prog) w s pos ty hp
        obtain ⟨h1, h2⟩ := decode_high s pos hp (by omega)
        have l1 := letter_high (c := ((Utf8.decode s pos).1 : Int)) (by omega)
        have l2 := digit_high (c := ((Utf8.decode s pos).1 : Int)) (by omega)
        go_wp2_with (first
          | (go_at_call 60; refine (letter_any _ _).mono ?_; rintro e w' ⟨rfl, rfl⟩)
          | (go_at_call 58; refine (digit_any _ _).mono ?_; rintro e w' ⟨rfl, rfl⟩))
        all_goals
          go_ret
          refine ⟨ret_bool ?_, (Below.refl _ _).alloc (Nat.le_refl _) _⟩
          refine (nameB_false ?_).symm
          rw [← HI.out, hd.out, nameLoop_stop (letter_high (by omega)) (.inr (digit_high (by omega)))]
    · have hnx := fun ty => run_next_end (P := Tryz.prog) w s pos ty hp
      obtain rfl : pos = s.size := by omega
      go_wp2_with (go_at_call 62; refine (Word_any s _ (H.out.up ((Below.refl _ _).alloc (Nat.le_refl _) _))).mono ?_; rintro e w' ⟨rfl, hb⟩)
      all_goals
        have HT : Hid (nameLoop s.data.toList true = true) := by
          show _ = _
          rw [← HI.out, List.drop_of_length_le (by simp)]
          rfl
        go_ret
        refine ⟨ret_bool ?_, ?_⟩
        · rw [HN.out, HT.out]
          by_cases h40 : s.size ≤ 40
          · rw [decide_eq_true h40]; first | (simp_all [data_toList]; done) | omega
          · rw [decide_eq_false h40]; first | (simp_all [data_toList]; done) | omega
        · first
            | exact (Below.refl _ _).alloc (Nat.le_refl _) _
            | exact ((Below.refl _ _).alloc (Nat.le_refl _) _).trans (hb.mono (by simp))

end Go.Proofs.YtokhfhibdeneeaaGreatDoor

namespace Go.Proofs.YtokhfhibdeneeaaGreatDoor
open Go.RowKit

def runP (letters : Bool) (c : Int) : Bool := digitB c || (letters && letterB c)
def runN (letters : Bool) : List UInt8 → Nat
  | [] => 0
  | c :: r => if runP letters c.toNat = true then runN letters r + 1 else 0
theorem runN_go {letters : Bool} {c : UInt8} {r : List UInt8} (h : runP letters c.toNat = true) : runN letters (c :: r) = runN letters r + 1 := by rw [runN, if_pos h]
theorem runN_stop {letters : Bool} {c : UInt8} {r : List UInt8} (h : runP letters c.toNat = false) : runN letters (c :: r) = 0 := by rw [runN, if_neg (by simp [h])]

set_option maxRecDepth 100000 in
set_option maxHeartbeats 1000000 in
theorem run_true (s : ByteArray) (w : World) : Calls Tryz.prog 61 #[.string s, .bool true] w fun e w' => e = .returned (.int .i64 (runN true s.data.toList)) ∧ Below w.heap.size w w' := by
  obtain ⟨N, HN⟩ : ∃ N, Hid (runN true s.data.toList = N) := ⟨_, rfl⟩
  rw [HN.out]
  go_enter Tryz.func61, Tryz.ntmps61
  go_wp2
  go_loopw [4] (fun v wr => v = .int .i64 0 ∧ ∃ pos : Nat, wr = w.iter s pos ∧ pos ≤ s.size ∧ Hid (N = pos + runN true (s.data.toList.drop pos))) (fun _ wr => s.size - wr.iterPos w.heap.size)
  case atStart => exact ⟨rfl, 0, rfl, Nat.zero_le _, by show _ = _; rw [← HN.out]; simp⟩
  case round =>
  obtain ⟨rfl, pos, rfl, hle, HI⟩ := hrel
  by_cases hp : pos < s.size
  · have hd := Lib.hid (drop_byte s pos hp)
    by_cases ha : (s[pos]'hp).toNat < 128
    · have hnx := fun ty => run_next_ascii (P := Tryz.prog) w s pos ty hp ha
      obtain ⟨c, HC⟩ : ∃ c : Nat, Hid ((s[pos]'hp).toNat = c) := ⟨_, rfl⟩
      rw [HC.out] at hnx
      cases hdi : digitB c <;> cases hle : letterB c
      all_goals
        go_wp2_with (first
          | (go_at_call 60; refine (letter_any _ _).mono ?_; rintro e w' ⟨rfl, rfl⟩)
          | (go_at_call 58; refine (digit_any _ _).mono ?_; rintro e w' ⟨rfl, rfl⟩))
        first
        | (go_roundw
           case rel =>
             refine ⟨by trivial, pos + 1, rfl, by omega, ?_⟩
             show _ = _
             rw [HI.out, hd.out, runN_go (by rw [HC.out]; simp [runP, hdi, hle])]
             omega
           case measure => simp; omega)
        | (go_ret
           refine ⟨ret_int ?_, (Below.refl _ _).alloc (Nat.le_refl _) _⟩
           rw [HI.out, hd.out, runN_stop (by rw [HC.out]; simp [runP, hdi, hle])]
           simp)
    · have hnx := fun ty => run_next_any (P := Tryz.prog) w s pos ty hp
      obtain ⟨h1, h2⟩ := decode_high s pos hp (by omega)
      have l1 := letter_high (c := ((Utf8.decode s pos).1 : Int)) (by omega)
      have l2 := digit_high (c := ((Utf8.decode s pos).1 : Int)) (by omega)
      go_wp2_with (first
          | (go_at_call 60; refine (letter_any _ _).mono ?_; rintro e w' ⟨rfl, rfl⟩)
          | (go_at_call 58; refine (digit_any _ _).mono ?_; rintro e w' ⟨rfl, rfl⟩))
      go_ret
      refine ⟨ret_int ?_, (Below.refl _ _).alloc (Nat.le_refl _) _⟩
      rw [HI.out, hd.out, runN_stop (by simp [runP, letter_high (c := ((s[pos]'hp).toNat : Int)) (by omega), digit_high (c := ((s[pos]'hp).toNat : Int)) (by omega)])]
      simp
  · have hnx := fun ty => run_next_end (P := Tryz.prog) w s pos ty hp
    obtain rfl : pos = s.size := by omega
    go_wp2
    go_ret
    refine ⟨ret_int ?_, (Below.refl _ _).alloc (Nat.le_refl _) _⟩
    rw [HI.out, List.drop_of_length_le (by simp)]
    simp [runN]

set_option maxRecDepth 100000 in
set_option maxHeartbeats 1000000 in
theorem run_false (s : ByteArray) (w : World) : Calls Tryz.prog 61 #[.string s, .bool false] w fun e w' => e = .returned (.int .i64 (runN false s.data.toList)) ∧ Below w.heap.size w w' := by
  obtain ⟨N, HN⟩ : ∃ N, Hid (runN false s.data.toList = N) := ⟨_, rfl⟩
  rw [HN.out]
  go_enter Tryz.func61, Tryz.ntmps61
  go_wp2
  go_loopw [4] (fun v wr => v = .int .i64 0 ∧ ∃ pos : Nat, wr = w.iter s pos ∧ pos ≤ s.size ∧ Hid (N = pos + runN false (s.data.toList.drop pos))) (fun _ wr => s.size - wr.iterPos w.heap.size)
  case atStart => exact ⟨rfl, 0, rfl, Nat.zero_le _, by show _ = _; rw [← HN.out]; simp⟩
  case round =>
  obtain ⟨rfl, pos, rfl, hle, HI⟩ := hrel
  by_cases hp : pos < s.size
  · have hd := Lib.hid (drop_byte s pos hp)
    by_cases ha : (s[pos]'hp).toNat < 128
    · have hnx := fun ty => run_next_ascii (P := Tryz.prog) w s pos ty hp ha
      obtain ⟨c, HC⟩ : ∃ c : Nat, Hid ((s[pos]'hp).toNat = c) := ⟨_, rfl⟩
      rw [HC.out] at hnx
      cases hdi : digitB c <;> cases hle : letterB c
      all_goals
        go_wp2_with (first
          | (go_at_call 60; refine (letter_any _ _).mono ?_; rintro e w' ⟨rfl, rfl⟩)
          | (go_at_call 58; refine (digit_any _ _).mono ?_; rintro e w' ⟨rfl, rfl⟩))
        first
        | (go_roundw
           case rel =>
             refine ⟨by trivial, pos + 1, rfl, by omega, ?_⟩
             show _ = _
             rw [HI.out, hd.out, runN_go (by rw [HC.out]; simp [runP, hdi, hle])]
             omega
           case measure => simp; omega)
        | (go_ret
           refine ⟨ret_int ?_, (Below.refl _ _).alloc (Nat.le_refl _) _⟩
           rw [HI.out, hd.out, runN_stop (by rw [HC.out]; simp [runP, hdi, hle])]
           simp)
    · have hnx := fun ty => run_next_any (P := Tryz.prog) w s pos ty hp
      obtain ⟨h1, h2⟩ := decode_high s pos hp (by omega)
      have l1 := letter_high (c := ((Utf8.decode s pos).1 : Int)) (by omega)
      have l2 := digit_high (c := ((Utf8.decode s pos).1 : Int)) (by omega)
      go_wp2_with (first
          | (go_at_call 60; refine (letter_any _ _).mono ?_; rintro e w' ⟨rfl, rfl⟩)
          | (go_at_call 58; refine (digit_any _ _).mono ?_; rintro e w' ⟨rfl, rfl⟩))
      go_ret
      refine ⟨ret_int ?_, (Below.refl _ _).alloc (Nat.le_refl _) _⟩
      rw [HI.out, hd.out, runN_stop (by simp [runP, letter_high (c := ((s[pos]'hp).toNat : Int)) (by omega), digit_high (c := ((s[pos]'hp).toNat : Int)) (by omega)])]
      simp
  · have hnx := fun ty => run_next_end (P := Tryz.prog) w s pos ty hp
    obtain rfl : pos = s.size := by omega
    go_wp2
    go_ret
    refine ⟨ret_int ?_, (Below.refl _ _).alloc (Nat.le_refl _) _⟩
    rw [HI.out, List.drop_of_length_le (by simp)]
    simp [runN]

theorem run_any (s : ByteArray) (letters : Bool) (w : World) : Calls Tryz.prog 61 #[.string s, .bool letters] w fun e w' => e = .returned (.int .i64 (runN letters s.data.toList)) ∧ Below w.heap.size w w' := by
  cases letters
  · exact run_false s w
  · exact run_true s w

theorem lexWrong_any (c a : Int) (w : World) : Calls Tryz.prog 25 #[.int .i64 c, .int .i64 a] w fun e w' => e = .returned (.pointer (some ⟨w.heap.size, 0, none⟩)) ∧ w' = w.alloc (.cells #[.int .i64 c, .int .i64 a, .string ⟨#[]⟩] 32) := by
  go_enter Tryz.func25, Tryz.ntmps25
  go_wp2
  go_ret
  exact ⟨rfl, rfl⟩

end Go.Proofs.YtokhfhibdeneeaaGreatDoor

namespace Go.Proofs.YtokhfhibdeneeaaGreatDoor
open Go.RowKit

theorem byteInfo : (Tryz.prog.info? 5).map (fun i => (i.zero, i.size, i.bytes)) = some (some (.int .u8 0), 1, 1) := by kernel_rfl
/-- A printer in block bp: its builder holds the bytes bs; addr holds p. -/
def PrIs (p : Value) (bp : Nat) (bs : List UInt8) (lg : Bool) (w : World) : Prop :=
  ∃ v, w.heap[bp]? = some (.cells #[p, v, .bool lg] 72 (0, 0)) ∧ w.ownsRow (bp + 1) 5 1 v bs.length (Lib.byteCells bs)
def PrAt (bp : Nat) (bs : List UInt8) (lg : Bool) (w : World) : Prop := PrIs (.pointer none) bp bs lg w ∨ PrIs (.pointer (some ⟨bp, 0, none⟩)) bp bs lg w
/-- What printing keeps. -/
structure PF (bp : Nat) (w w' : World) : Prop where
  below : Below bp w w'
  others : Lib.OthersKept 5 (some bp) w w'
theorem PF.refl (bp : Nat) (w : World) : PF bp w w := ⟨Below.refl _ _, Lib.OthersKept.refl _ _ _⟩
theorem PF.trans {bp : Nat} {a b c : World} (h : PF bp a b) (k : PF bp b c) : PF bp a c := ⟨h.below.trans k.below, h.others.trans k.others⟩
theorem PF.set {bp : Nat} {a b : World} (h : PF bp a b) (i : Nat) (v : Value) : PF bp a (b.setCell ⟨bp, i, none⟩ v) := ⟨h.below.setCell (p := ⟨bp, i, none⟩) (Nat.le_refl _) v, h.others.setCell ⟨bp, i, none⟩ rfl v⟩
theorem PF.alloc {bp : Nat} {a b : World} (h : PF bp a b) (hb : bp ≤ b.heap.size) (o : Obj) : PF bp a (b.alloc o) := ⟨h.below.alloc hb o, h.others.alloc o⟩
theorem PF.drew {bp : Nat} {a b : World} (h : PF bp a b) : PF bp a b.drew := ⟨h.below.drew, h.others.drew⟩
theorem PF.row {bp k : Nat} {a b : World} (h : PF bp a b) {cs : Array Value} {T : TypeId} {fr : Nat × Nat} (hk : a.heap[k]? = some (.cells cs T fr)) (hne : k ≠ bp) (hT : T ≠ 5) : b.heap[k]? = some (.cells cs T fr) :=
  h.others k _ hk (fun e => hne (Option.some.inj e)) (fun c fz e => hT (by cases e; rfl))

theorem PrIs.lt {p : Value} {bp : Nat} {bs : List UInt8} {lg : Bool} {w : World} (h : PrIs p bp bs lg w) : bp < w.heap.size := by
  obtain ⟨v, h, _⟩ := h
  exact (Array.getElem?_eq_some_iff.1 h).1
theorem PrAt.lt {bp : Nat} {bs : List UInt8} {lg : Bool} {w : World} (h : PrAt bp bs lg w) : bp < w.heap.size := h.elim PrIs.lt PrIs.lt
/-- A store into the printer's own block. -/
theorem PrIs.put {_p p' _v v' : Value} {bp : Nat} {_bs bs' : List UInt8} {_lg lg' : Bool} {w w' : World} (hrow : w'.heap[bp]? = some (.cells #[p', v', .bool lg'] 72 (0, 0))) (hown : w.ownsRow (bp + 1) 5 1 v' bs'.length (Lib.byteCells bs')) (hk : ∀ k, k ≠ bp → w'.heap[k]? = w.heap[k]?) (_hs : w.heap.size ≤ w'.heap.size) : PrIs p' bp bs' lg' w' := by
  refine ⟨v', hrow, ?_⟩
  refine ⟨hown.1, hown.2.imp id ?_⟩
  rintro ⟨g, cap, cur, rfl, hb, hg, h1, h2, h3, h4⟩
  exact ⟨g, cap, cur, rfl, hb, (hk g (by omega)).trans hg, h1, h2, h3, h4⟩

end Go.Proofs.YtokhfhibdeneeaaGreatDoor
