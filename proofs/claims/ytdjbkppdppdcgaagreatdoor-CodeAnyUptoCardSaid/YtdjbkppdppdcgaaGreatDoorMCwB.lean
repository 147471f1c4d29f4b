/- code.folded, (*stack).less, code.counted. code.numbers, code.text: what is laid behind a list of bytes. (*stack).with. code.counted. -/
import Derived.BigQuiet
import Derived.Deep.DeepCutAuto
import Derived.Lib.AppendStr
import Derived.Lib.Varint
import Derived.Deep.AppendLies
import Derived.Test.YtdjbkppdppdcgaaGreatDoorShelf
import Derived.Test.YtdjbkppdppdcgaaGreatDoorMCdD
import Derived.Test.YtdjbkppdppdcgaaGreatDoorMLex1
import Derived.Test.YtdjbkppdppdcgaaGreatDoorCwT
import Derived.Test.YtdjbkppdppdcgaaGreatDoorMCwL
import Derived.Test.YtdjbkppdppdcgaaGreatDoorMScanA
import Derived.Test.YtdjbkppdppdcgaaGreatDoorSqC
import Derived.Test.YtdjbkppdppdcgaaGreatDoorMScan1
import Derived.Test.YtdjbkppdppdcgaaGreatDoorMCwH
namespace Go.Proofs.YtdjbkppdppdcgaaGreatDoor
open Go.RowKit

theorem nodeCells {ty : TypeId} {w : World} {B : Nat} {T : Tab} (h : Stk ty w B T) {b : Nat} {s : List UInt8} (hb : (b, s) ∈ T) :
    ∃ bl, w.cell? ⟨b, 0, none⟩ = some (.int .u8 (topOf s)) ∧ w.cell? ⟨b, 1, none⟩ = some bl ∧ w.cell? ⟨b, 2, none⟩ = some (.int .i64 s.length) ∧ belowOf T s bl := by
  obtain ⟨_, _, bl, o0, o1, o2, h1, h2, _⟩ := h.node b s hb
  exact ⟨bl, cell_of_row w b 0 _ _ _ h1, cell_of_row w b 1 _ _ _ h1, cell_of_row w b 2 _ _ _ h1, h2⟩

/-- A stack without some things, or nil. -/
def StkOr (T : Tab) (o : Option (List UInt8)) (v : Value) : Prop := match o with
  | none => v = .pointer none
  | some s => ∃ b, v = .pointer (some ⟨b, 0, none⟩) ∧ (b, s) ∈ T

set_option maxRecDepth 100000 in
set_option maxHeartbeats 1000000 in
theorem less_any {ty : TypeId} {w : World} {B : Nat} {T : Tab} (h : Stk ty w B T) {b : Nat} {s : List UInt8} (hb : (b, s) ∈ T) (c : UInt8) (hc : c ≠ 0) (n : Int) (hn : n ≤ 9223372036854775807) :
    Calls Tryz.prog 88 #[.pointer (some ⟨b, 0, none⟩), .int .u8 c.toNat, .int .i64 n] w fun e w' => w' = w ∧ ∃ v, e = .returned v ∧ StkOr T (lessP s c n.toNat) v := by
  have H := Lib.hid h
  clear h
  obtain ⟨R, HR⟩ : ∃ R, Hid (lessP s c n.toNat = R) := ⟨_, rfl⟩
  rw [HR.out]
  go_enter Tryz.func88, Tryz.ntmps88
  go_wp2_with fail
  go_loopw [0, 2] (fun v k wr => wr = w ∧ ∃ (n' : Int) (b' : Nat) (s' : List UInt8), v = .pointer (some ⟨b', 0, none⟩) ∧ k = .int .i64 n' ∧ n' ≤ n ∧ (b', s') ∈ T ∧ Hid (lessP s' c n'.toNat = R)) (fun _ k _ => (intOf k).toNat)
  case atStart => exact ⟨rfl, n, b, s, rfl, rfl, Int.le_refl _, hb, HR⟩
  case round =>
    obtain ⟨rfl, n', b', s', rfl, rfl, hn', hb', HL⟩ := hrel
    obtain ⟨bl, k0, k1, k2, hbl⟩ := nodeCells H.out hb'
    by_cases hn0 : n' ≤ 0
    · have d : decide (0 < n') = false := by simp; omega
      have hl := HL.out
      rw [show n'.toNat = 0 by omega, lessP] at hl
      have HL2 := Lib.hid hl
      clear hl
      go_wp2_with fail
      go_ret
      exact ⟨rfl, _, rfl, by rw [← HL2.out]; exact ⟨b', rfl, hb'⟩⟩
    · have d : decide (0 < n') = true := by simp; omega
      have hl := HL.out
      rw [show n'.toNat = (n' - 1).toNat + 1 by omega] at hl
      have e0 : ((0 : Int) != (c.toNat : Int)) = true := by simpa using fun e => hc (UInt8.toNat_inj.1 (by simp; omega))
      cases s' with
      | nil =>
        rw [lessP] at hl
        have HL2 := Lib.hid hl
        simp only [topOf] at k0
        clear hl
        by_cases h63 : c = 63
        · subst h63
          go_wp2_with fail
          go_ret
          exact ⟨rfl, _, rfl, by rw [← HL2.out]; rfl⟩
        · have e63 : ((c.toNat : Int) != 63) = true := by simpa using fun e => h63 (UInt8.toNat_inj.1 (by simp; omega))
          go_wp2_with fail
          go_ret
          exact ⟨rfl, _, rfl, by rw [← HL2.out]; rfl⟩
      | cons t r =>
        rw [lessP] at hl
        simp only [topOf] at k0
        obtain ⟨b2, rfl, hb2⟩ := hbl
        by_cases htc : t = c
        · subst htc
          rw [if_pos (.inl rfl)] at hl
          have HL2 := Lib.hid hl
          clear hl
          go_wp2_with fail
          go_roundw
          case rel => exact ⟨by trivial, n' - 1, b2, r, rfl, rfl, by omega, hb2, HL2⟩
          case measure => simp [intOf]; omega
        · have e1 : ((t.toNat : Int) != (c.toNat : Int)) = true := by simpa using fun e => htc (UInt8.toNat_inj.1 (by omega))
          by_cases h63 : c = 63
          · subst h63
            by_cases h1 : t = 118
            · subst h1
              rw [if_pos (.inr ⟨rfl, .inl rfl⟩)] at hl
              have HL2 := Lib.hid hl
              clear hl
              go_wp2_with fail
              go_roundw
              case rel => exact ⟨by trivial, n' - 1, b2, r, rfl, rfl, by omega, hb2, HL2⟩
              case measure => simp [intOf]; omega
            · by_cases h2 : t = 112
              · subst h2
                rw [if_pos (.inr ⟨rfl, .inr rfl⟩)] at hl
                have HL2 := Lib.hid hl
                clear hl
                go_wp2_with fail
                go_roundw
                case rel => exact ⟨by trivial, n' - 1, b2, r, rfl, rfl, by omega, hb2, HL2⟩
                case measure => simp [intOf]; omega
              · have e4 : ((t.toNat : Int) != 63) = true := by simpa using fun e => htc (UInt8.toNat_inj.1 (by simp; omega))
                have e2 : ((t.toNat : Int) != 118) = true := by simpa using fun e => h1 (UInt8.toNat_inj.1 (by simp; omega))
                have e3 : ((t.toNat : Int) != 112) = true := by simpa using fun e => h2 (UInt8.toNat_inj.1 (by simp; omega))
                rw [if_neg (by rintro (e | ⟨_, e | e⟩); exact htc e; exact h1 e; exact h2 e)] at hl
                have HL2 := Lib.hid hl
                clear hl
                go_wp2_with fail
                go_ret
                exact ⟨rfl, _, rfl, by rw [← HL2.out]; rfl⟩
          · have e63 : ((c.toNat : Int) != 63) = true := by simpa using fun e => h63 (UInt8.toNat_inj.1 (by simp; omega))
            rw [if_neg (by rintro (e | ⟨e, _⟩); exact htc e; exact h63 e)] at hl
            have HL2 := Lib.hid hl
            clear hl
            go_wp2_with fail
            go_ret
            exact ⟨rfl, _, rfl, by rw [← HL2.out]; rfl⟩

theorem folded_any (n : Int) (hn : okI n) (w : World) : Calls Tryz.prog 63 #[.int .i64 n] w fun e w' => e = .returned (.int .u64 (foldN n)) ∧ w' = w := by
  go_enter Tryz.func63, Tryz.ntmps63
  have hx := fold_law n hn
  go_wp2_with fail
  go_ret
  exact ⟨ret_int (by first | rfl | exact hx), rfl⟩
end Go.Proofs.YtdjbkppdppdcgaaGreatDoor

namespace Go.Proofs.YtdjbkppdppdcgaaGreatDoor
open Go.RowKit

/-- A list of bytes with more behind it: what a call leaves. -/
def BytesPost (w : World) (lo : Nat) (v : Value) (bs : List UInt8) (e : Ending) (w' : World) : Prop :=
  ∃ v', e = .returned v' ∧ w'.ownsRow lo 5 1 v' bs.length (Lib.byteCells bs) ∧ Foot w.heap.size (fun k => v.ownBlock = some k) w w' ∧ ∀ b, v'.ownBlock = some b → v.ownBlock = some b ∨ w.heap.size ≤ b
theorem bytes_step {w w1 w2 : World} {v v1 : Value} (h1 : Foot w.heap.size (fun k => v.ownBlock = some k) w w1) (g1 : ∀ b, v1.ownBlock = some b → v.ownBlock = some b ∨ w.heap.size ≤ b)
    (h2 : Foot w1.heap.size (fun k => v1.ownBlock = some k) w1 w2) : Foot w.heap.size (fun k => v.ownBlock = some k) w w2 :=
  h1.trans (h2.mono h1.size fun k hk e => by
    rcases g1 k e with e | e
    · exact e
    · omega)
theorem bytes_far {w w1 : World} {v v1 v2 : Value} (h1 : w.heap.size ≤ w1.heap.size) (g1 : ∀ b, v1.ownBlock = some b → v.ownBlock = some b ∨ w.heap.size ≤ b) (g2 : ∀ b, v2.ownBlock = some b → v1.ownBlock = some b ∨ w1.heap.size ≤ b) :
    ∀ b, v2.ownBlock = some b → v.ownBlock = some b ∨ w.heap.size ≤ b := fun b hb => by
  rcases g2 b hb with e | e
  · exact g1 b e
  · exact .inr (Nat.le_trans h1 e)
/-- An append of one byte: what it leaves. -/
theorem bytes_app {w w2 : World} {o : Obj} {v : Value} {g2 cap2 n : Nat} (hg : (w.alloc o).grownBy w2 v.ownBlock) (hb : v.ownBlock = some g2 ∨ g2 = (w.alloc o).heap.size) :
    Foot w.heap.size (fun k => v.ownBlock = some k) w w2 ∧ ∀ b, (Value.slice (some ⟨g2, 0, none⟩) n cap2).ownBlock = some b → v.ownBlock = some b ∨ w.heap.size ≤ b := by
  have hs : (w.alloc o).heap.size = w.heap.size + 1 := World.size_alloc _ _
  refine ⟨⟨hg.os, hg.tape, hg.output, by have := hg.size; omega, fun k hk hn => ?_⟩, fun b hb2 => ?_⟩
  · rw [hg.block k (by omega) (fun e => hn e.symm)]
    exact heap_alloc_old w o hk
  · have e : g2 = b := by simpa [Value.ownBlock] using hb2
    rcases hb with h | h
    · left; rw [h, e]
    · right; omega
theorem byte_or (u : Nat) : bits .or .u8 ((u : Int) % 256) 128 = ((UInt8.ofNat (u % 128 + 128)).toNat : Int) := by
  have hw : (u : Int) % 256 = ((u % 256 : Nat) : Int) := by omega
  rw [hw, Lib.u8_or128_any _ (by omega) (by omega)]
  have : (UInt8.ofNat (u % 128 + 128)).toNat = u % 128 + 128 := by
    rw [UInt8.toNat_ofNat']
    omega
  rw [this]
  omega
theorem numU_len : ∀ (f u : Nat), (numU f u).length ≤ f + 1
  | 0, u => by simp [numU]
  | f + 1, u => by
    rw [numU]
    split
    · have := numU_len f (u / 128); simp only [List.length_cons]; omega
    · simp
theorem foldN_lt {n : Int} (h : okI n) : foldN n < 18446744073709551616 := by
  obtain ⟨h0, h1⟩ := h
  unfold foldN
  split <;> omega

set_option maxRecDepth 100000 in
set_option maxHeartbeats 4000000 in
theorem numbers_any {w : World} {lo : Nat} {v : Value} {bs : List UInt8} (h : w.ownsRow lo 5 1 v bs.length (Lib.byteCells bs)) (hlo : lo ≤ w.heap.size) {A : Option Addr} {l : List Int} {cap : Nat} (_hl : ∀ g, v.ownBlock = some g → g < w.heap.size)
    (hr : RowIs w w.heap.size A (l.map (Value.int .i64))) (hov : ∀ a, A = some a → v.ownBlock ≠ some a.block) (hok : ∀ n ∈ l, okI n) (hlen : bs.length + 11 * l.length ≤ 100000000) :
    Calls Tryz.prog 34 #[v, .slice A l.length cap] w (BytesPost w lo v (bs ++ l.flatMap numB)) := by
  obtain ⟨i0, hi, hz0, hz1, hz2⟩ := info_parts byteInfo
  obtain ⟨T, HT⟩ : ∃ T, Hid (bs ++ l.flatMap numB = T) := ⟨_, rfl⟩
  rw [HT.out]
  have H := Lib.hid h
  have HR := Lib.hid hr
  have HOK := Lib.hid hok
  obtain ⟨m, hm⟩ : ∃ m, l.length = m := ⟨_, rfl⟩
  have HM := Lib.hid hm
  rw [hm] at hlen ⊢
  clear h hr hok hm
  go_enter Tryz.func34, Tryz.ntmps34
  go_wp2_with fail
  go_loopw [0, 10] (fun v1 i wr => ∃ (j : Nat) (b1 : List UInt8), i = .int .i64 j ∧ j ≤ m ∧ b1.length ≤ bs.length + 11 * j ∧ Hid (wr.ownsRow lo 5 1 v1 b1.length (Lib.byteCells b1)) ∧ Hid (Foot w.heap.size (fun k => v.ownBlock = some k) w wr) ∧ Hid (∀ b, v1.ownBlock = some b → v.ownBlock = some b ∨ w.heap.size ≤ b) ∧ Hid (b1 ++ (l.drop j).flatMap numB = T)) (fun _ i _ => m - (intOf i).toNat)
  case atStart => exact ⟨0, bs, rfl, Nat.zero_le _, by omega, H, Lib.hid (Foot.refl _ _ _), Lib.hid fun _ h => .inl h, HT⟩
  case round =>
    obtain ⟨j, b1, rfl, hj, hb1, HO, HF, HG, HE⟩ := hrel
    by_cases hlt : j < m
    · obtain ⟨x, hx⟩ : ∃ x, l[j]? = some x := ⟨_, List.getElem?_eq_getElem (by rw [HM.out]; exact hlt)⟩
      have hxk := HOK.out x (List.mem_of_getElem? hx)
      obtain ⟨g, o, rfl, hg, hc⟩ := HR.out.at (by rw [List.length_map, HM.out]; omega)
      have cx := hc j (.int .i64 x) (by simp [hx])
      have hng := hov _ rfl
      rw [← HF.out.cell (p := ⟨g, o + j, none⟩) hg hng] at cx
      have he := HE.out
      rw [drop_cons hx, List.flatMap_cons] at he
      have HE2 := Lib.hid he
      clear he hx
      go_wp2_with (go_at_call 63; refine (folded_any x hxk _).mono ?_; rintro e w1 ⟨rfl, rfl⟩)
      go_loopw [0, 7] (fun v2 uv wy => ∃ (fu u : Nat) (b2 : List UInt8), uv = .int .u64 u ∧ Hid (u < 2 ^ (7 * (fu + 1))) ∧ fu ≤ 10 ∧ b2.length + fu + 1 ≤ bs.length + 11 * (j + 1) ∧ Hid (wy.ownsRow lo 5 1 v2 b2.length (Lib.byteCells b2)) ∧ Hid (Foot w.heap.size (fun k => v.ownBlock = some k) w wy) ∧ Hid (∀ b, v2.ownBlock = some b → v.ownBlock = some b ∨ w.heap.size ≤ b) ∧ Hid (b2 ++ (numU fu u ++ (l.drop (j + 1)).flatMap numB) = T)) (fun _ uv _ => (intOf uv).toNat)
      case atStart => exact ⟨10, foldN x, b1, rfl, Lib.hid (Nat.lt_of_lt_of_le (foldN_lt hxk) (by decide)), by omega, by omega, HO, HF, HG, HE2⟩
      case round =>
        obtain ⟨fu, u, b2, rfl, HU, hfu, hb2l, HO2, HF2, HG2, HE3⟩ := hrel
        obtain ⟨A2, cap2, rfl, hc1, hc2⟩ := row_form HO2.out
        have hng2 := HG2
        by_cases h127 : 127 < u
        · obtain ⟨fu', rfl⟩ : ∃ f', fu = f' + 1 := by
            cases fu with
            | zero => have := HU.out; simp at this; omega
            | succ f' => exact ⟨f', rfl⟩
          have d : decide (127 < u) = true := decide_eq_true h127
          have hor := byte_or u
          obtain ⟨c, hcv⟩ : ∃ c, UInt8.ofNat (u % 128 + 128) = c := ⟨_, rfl⟩
          rw [hcv] at hor
          have he := HE3.out
          rw [numU, if_pos h127, hcv] at he
          have HE4 : Hid ((b2 ++ [c]) ++ (numU fu' (u / 128) ++ (l.drop (j + 1)).flatMap numB) = T) := Lib.hid (by rw [← he]; simp)
          have HU2 : Hid (u / 128 < 2 ^ (7 * (fu' + 1))) := Lib.hid (by
            have := HU.out
            rw [show 7 * (fu' + 1 + 1) = 7 * (fu' + 1) + 7 by omega, Nat.pow_add] at this
            exact Nat.div_lt_of_lt_mul (by rw [Nat.mul_comm]; exact this))
          clear he hcv
          go_wp2_with (at_builtin; refine wpList_append_lies _ rfl _ _ 69 rfl lo 5 i0 _ 1 1 Tryz.underlying69 hi hz0 hz1 hz2 rfl (by decide) _ _ _ rfl (HO2.out.alloc _) ⟨wr.heap.size, 0, none⟩ 1 1 [.int .u8 c.toNat] rfl rfl (cell_one_new wr _ _) (by intro u hu; simp at hu; subst hu; rfl) (by decide) (by unfold maxLen; omega) (by omega) (by have := HF2.out.size; simp; omega) _ rfl ?_; intro g2 cap2 w2 ho2 hg2 hb2 hl2)
          obtain ⟨hf2, hw2⟩ := bytes_app hg2 hb2
          refine ⟨⟨fu', u / 128, b2 ++ [c], by simp, HU2, by omega, by simp only [List.length_append, List.length_cons, List.length_nil]; omega, Lib.hid ?_, Lib.hid (bytes_step HF2.out hng2.out hf2), Lib.hid (bytes_far HF2.out.size hng2.out hw2), HE4⟩, ?_⟩
          · simpa [Lib.byteCells] using ho2
          · simp only [intOf]; omega
        · obtain ⟨c, rfl⟩ : ∃ c : UInt8, u = c.toNat := ⟨UInt8.ofNat u, by rw [UInt8.toNat_ofNat']; omega⟩
          have d : decide (127 < c.toNat) = false := decide_eq_false h127
          have he : (b2 ++ [c]) ++ (l.drop (j + 1)).flatMap numB = T := by
            have := HE3.out
            rw [show numU fu c.toNat = [c] by cases fu <;> simp [numU, h127]] at this
            rw [← this]; simp
          have HE4 := Lib.hid he
          clear he HE HE2 HE3
          go_wp2_with (at_builtin; refine wpList_append_lies _ rfl _ _ 69 rfl lo 5 i0 _ 1 1 Tryz.underlying69 hi hz0 hz1 hz2 rfl (by decide) _ _ _ rfl (HO2.out.alloc _) ⟨wr.heap.size, 0, none⟩ 1 1 [.int .u8 c.toNat] rfl rfl (cell_one_new wr _ _) (by intro u hu; simp at hu; subst hu; rfl) (by decide) (by unfold maxLen; omega) (by omega) (by have := HF2.out.size; simp; omega) _ rfl ?_; intro g2 cap2 w2 ho2 hg2 hb2 hl2)
          obtain ⟨hf2, hw2⟩ := bytes_app hg2 hb2
          refine ⟨⟨j + 1, b2 ++ [c], by simp, by omega, by simp only [List.length_append, List.length_cons, List.length_nil]; omega, Lib.hid ?_, Lib.hid (bytes_step HF2.out hng2.out hf2), Lib.hid (bytes_far HF2.out.size hng2.out hw2), HE4⟩, ?_⟩
          · simpa [Lib.byteCells] using ho2
          · simp only [intOf]; omega
    · obtain rfl : j = m := by omega
      have he := HE.out
      rw [List.drop_of_length_le (by rw [HM.out]; exact Nat.le_refl _)] at he
      simp only [List.flatMap_nil, List.append_nil] at he
      subst he
      go_wp2_with fail
      go_ret
      exact ⟨_, rfl, HO.out, HF.out, HG.out⟩
end Go.Proofs.YtdjbkppdppdcgaaGreatDoor

namespace Go.Proofs.YtdjbkppdppdcgaaGreatDoor
open Go.RowKit

/-- What a stack with a thing more leaves. -/
def WithPost (w : World) (B : Nat) (T : Tab) (c : UInt8) (s : List UInt8) (e : Ending) (w' : World) : Prop :=
  ∃ g T', e = .returned (.pointer (some ⟨g, 0, none⟩)) ∧ (g, c :: s) ∈ T' ∧ Stk 108 w' B T' ∧ (∀ x ∈ T, x ∈ T') ∧ (∀ x ∈ T', x ∈ T ∨ w.heap.size ≤ x.1) ∧ Foot w.heap.size (fun k => ∃ s, (k, s) ∈ T) w w'
theorem WithPost.there {w w' : World} {B : Nat} {T : Tab} {c : UInt8} {s : List UInt8} {g : Nat} (h : Stk 108 w B T) (hg : (g, c :: s) ∈ T) (he : w' = w) : WithPost w B T c s (.returned (.pointer (some ⟨g, 0, none⟩))) w' := by
  subst he
  exact ⟨g, T, rfl, hg, h, fun _ h => h, fun _ h => .inl h, Foot.refl _ _ _⟩
theorem with_new {w : World} {B : Nat} {T : Tab} {c : UInt8} {b j : Nat} {s : List UInt8} {bl o0 o1 o2 : Value} (h : Stk 108 w B T) (hb : (b, s) ∈ T) (hno : ∀ b', (b', c :: s) ∉ T)
    (hrow : w.heap[b]? = some (.cells #[.int .u8 (topOf s), bl, .int .i64 s.length, o0, o1, o2] 108 (0, 0))) (hj : (c = 118 ∧ j = 3 ∧ o0 = .pointer none) ∨ (c = 112 ∧ j = 4 ∧ o1 = .pointer none) ∨ (c = 116 ∧ j = 5 ∧ o2 = .pointer none)) :
    WithPost w B T c s (.returned (.pointer (some ⟨w.heap.size, 0, none⟩))) (((w.setCell ⟨b, j, none⟩ (.pointer (some ⟨w.heap.size, 0, none⟩))).alloc (.cells #[.int .u8 c.toNat, .pointer (some ⟨b, 0, none⟩), .int .i64 ((s.length : Int) + 1), .pointer none, .pointer none, .pointer none] 108 (0, 0))).drew) := by
  have hlt : b < w.heap.size := (h.node b s hb).2.1
  have hs : (w.setCell ⟨b, j, none⟩ (.pointer (some ⟨w.heap.size, 0, none⟩))).heap.size = w.heap.size := by simp
  have hn := heap_alloc_new (w.setCell ⟨b, j, none⟩ (.pointer (some ⟨w.heap.size, 0, none⟩))) (.cells #[.int .u8 c.toNat, .pointer (some ⟨b, 0, none⟩), .int .i64 ((s.length : Int) + 1), .pointer none, .pointer none, .pointer none] 108 (0, 0))
  rw [hs] at hn
  have hk : ∀ k, k < w.heap.size → k ≠ b → ((w.setCell ⟨b, j, none⟩ (.pointer (some ⟨w.heap.size, 0, none⟩))).alloc (.cells #[.int .u8 c.toNat, .pointer (some ⟨b, 0, none⟩), .int .i64 ((s.length : Int) + 1), .pointer none, .pointer none, .pointer none] 108 (0, 0))).heap[k]? = w.heap[k]? := fun k hk hne =>
    (heap_alloc_old _ _ (by rw [hs]; exact hk)).trans (Below.heap_setCell w _ _ _ hne)
  have hset := heap_setCell_same w b j _ _ (.pointer (some ⟨w.heap.size, 0, none⟩)) hrow
  have hset2 := (heap_alloc_old (w.setCell ⟨b, j, none⟩ (.pointer (some ⟨w.heap.size, 0, none⟩))) (.cells #[.int .u8 c.toNat, .pointer (some ⟨b, 0, none⟩), .int .i64 ((s.length : Int) + 1), .pointer none, .pointer none, .pointer none] 108 (0, 0)) (by rw [hs]; exact hlt)).trans hset
  refine ⟨w.heap.size, (w.heap.size, c :: s) :: T, rfl, List.mem_cons_self .., ?_, fun x hx => .tail _ hx, fun x hx => ?_, ?_⟩
  · refine h.add (b := b) hb hno (fun s' hs' => ?_) (Nat.le_trans (h.node b s hb).1 (Nat.le_of_lt hlt)) (by show w.heap.size < _; simp) (hn.trans (by push_cast; rfl)) ⟨bl, o0, o1, o2, hrow, ?_⟩ (fun b' s' hb' hne => hk b' (h.node b' s' hb').2.1 hne)
    · exact absurd (h.node _ _ hs').2.1 (Nat.lt_irrefl _)
    · rcases hj with ⟨rfl, rfl, _⟩ | ⟨rfl, rfl, _⟩ | ⟨rfl, rfl, _⟩
      · exact .inl ⟨rfl, hset2⟩
      · exact .inr (.inl ⟨rfl, hset2⟩)
      · exact .inr (.inr ⟨rfl, hset2⟩)
  · rcases List.mem_cons.1 hx with e | hx
    · rw [e]; exact .inr (Nat.le_refl _)
    · exact .inl hx
  · exact ⟨rfl, rfl, rfl, by show w.heap.size ≤ _; simp, fun k hk2 hn2 => hk k hk2 (fun e => hn2 ⟨s, by rw [e]; exact hb⟩)⟩
set_option maxRecDepth 100000 in
set_option maxHeartbeats 4000000 in
theorem with_any {w : World} {B : Nat} {T : Tab} (h : Stk 108 w B T) {b : Nat} {s : List UInt8} (hb : (b, s) ∈ T) (c : UInt8) (hc : c = 118 ∨ c = 112 ∨ c = 116) (hs : s.length ≤ 100000) :
    Calls Tryz.prog 89 #[.pointer (some ⟨b, 0, none⟩), .int .u8 c.toNat] w (WithPost w B T c s) := by
  obtain ⟨hB, hblt, bl, o0, o1, o2, hrow, hbl, h0, h1, h2⟩ := h.node b s hb
  have k2 := cell_of_row w b 2 _ _ _ hrow
  have k3 := cell_of_row w b 3 _ _ _ hrow
  have k4 := cell_of_row w b 4 _ _ _ hrow
  have k5 := cell_of_row w b 5 _ _ _ hrow
  have f3 := frozen_of_row w b 3 _ _ hrow
  have f4 := frozen_of_row w b 4 _ _ hrow
  have f5 := frozen_of_row w b 5 _ _ hrow
  simp only [List.getElem?_toArray, List.getElem?_cons_zero, List.getElem?_cons_succ] at k2 k3 k4 k5
  have hwr : IntKind.i64.wrap ((s.length : Int) + 1) = (s.length : Int) + 1 := by rw [IntKind.wrap_i64]; omega
  have H := Lib.hid h
  have HR := Lib.hid hrow
  clear h hrow
  go_enter Tryz.func89, Tryz.ntmps89
  rcases hc with rfl | rfl | rfl
  · rcases h0 with ⟨rfl, hno⟩ | ⟨g, rfl, hg⟩
    · go_wp2_with (go_at_call 112; refine (Tryz.strings_IndexByte _ _ _).mono ?_; rintro e w1 ⟨rfl, rfl⟩; rw [show Lib.indexByte _ _ = 0 by kernel_rfl])
      refine wp_region_G [] (fun x => x.cell? ⟨b, 2, none⟩ = some (.int .i64 s.length)) (by rfl) ?_ (fun hHeld => ?_)
      · exact k2
      refine wpAnyG_take (i := 0) (v := ?_) rfl (by kernel_rfl) (by kernel_rfl) (by kernel_rfl) (by kernel_rfl) (by kernel_rfl) (fun _ _ _ h => h) (Or.inl ⟨by rfl, ?_⟩) (by assumption) ?_
      rotate_left
      · (intro w hSw; (try dsimp only at hSw); go_simp; try with_reducible rfl)
      try simp only [nmC]
      refine wpAnyG_take (i := 1) (v := ?_) rfl (by kernel_rfl) (by kernel_rfl) (by kernel_rfl) (by kernel_rfl) (by kernel_rfl) (fun _ _ _ h => h) (Or.inl ⟨by rfl, ?_⟩) (by assumption) ?_
      rotate_left
      · (intro w hSw; (try dsimp only at hSw); go_simp; try with_reducible rfl)
      try simp only [nmC]
      refine wpAnyG_take (i := 2) (v := ?_) rfl (by kernel_rfl) (by kernel_rfl) (by kernel_rfl) (by kernel_rfl) (by kernel_rfl) (fun _ _ _ h => h) (Or.inl ⟨by rfl, ?_⟩) (by assumption) ?_
      rotate_left
      · (intro w hSw; (try dsimp only at hSw); go_simp; try with_reducible rfl)
      try simp only [nmC]
      refine wpAnyG_take (i := 3) (v := ?_) rfl (by kernel_rfl) (by kernel_rfl) (by kernel_rfl) (by kernel_rfl) (by kernel_rfl) (fun _ _ _ h => h) (Or.inl ⟨by rfl, ?_⟩) (by assumption) ?_
      rotate_left
      · (intro w hSw; (try dsimp only at hSw); go_simp; try with_reducible rfl)
      try simp only [nmC]
      refine wpAnyG_take (i := 4) (v := ?_) rfl (by kernel_rfl) (by kernel_rfl) (by kernel_rfl) (by kernel_rfl) (by kernel_rfl) (fun _ _ _ h => h) (Or.inl ⟨by rfl, ?_⟩) (by assumption) ?_
      rotate_left
      · (intro w hSw; (try dsimp only at hSw); go_simp; try with_reducible rfl)
      try simp only [nmC]
      refine wpAnyG_take (i := 5) (v := ?_) rfl (by kernel_rfl) (by kernel_rfl) (by kernel_rfl) (by kernel_rfl) (by kernel_rfl) (fun _ _ _ h => h) (Or.inl ⟨by rfl, ?_⟩) (by assumption) ?_
      rotate_left
      · (intro w hSw; (try dsimp only at hSw); go_simp; try with_reducible rfl)
      try simp only [nmC]
      refine wpAnyG_take (i := 6) (v := ?_) rfl (by kernel_rfl) (by kernel_rfl) (by kernel_rfl) (by kernel_rfl) (by kernel_rfl) (fun _ _ _ h => h) (Or.inl ⟨by rfl, ?_⟩) (by assumption) ?_
      rotate_left
      · (intro w hSw; (try dsimp only at hSw); go_simp; try with_reducible rfl)
      try simp only [nmC]
      refine wpAnyG_take (i := 7) (v := ?_) rfl (by kernel_rfl) (by kernel_rfl) (by kernel_rfl) (by kernel_rfl) (by kernel_rfl) (fun _ _ _ h => h) (Or.inl ⟨by rfl, ?_⟩) (by assumption) ?_
      rotate_left
      · (intro w hSw; (try dsimp only at hSw); go_simp; try with_reducible rfl)
      try simp only [nmC]
      refine wpAnyG_take (i := 8) (v := ?_) rfl (by kernel_rfl) (by kernel_rfl) (by kernel_rfl) (by kernel_rfl) (by kernel_rfl) (fun _ _ _ h => h) (Or.inl ⟨by rfl, ?_⟩) (by assumption) ?_
      rotate_left
      · (intro w hSw; (try dsimp only at hSw); go_simp; try with_reducible rfl)
      try simp only [nmC]
      refine wpAnyG_take (i := 9) (v := ?_) rfl (by kernel_rfl) (by kernel_rfl) (by kernel_rfl) (by kernel_rfl) (by kernel_rfl) (fun _ _ _ h => h) (Or.inl ⟨by rfl, ?_⟩) (by assumption) ?_
      rotate_left
      · (intro w hSw; (try dsimp only at hSw); go_simp; try with_reducible rfl)
      try simp only [nmC]
      refine wpAnyG_take (i := 11) (v := ?_) rfl (by kernel_rfl) (by kernel_rfl) (by kernel_rfl) (by kernel_rfl) (by kernel_rfl) (fun _ _ _ h => h) (Or.inl ⟨by rfl, ?_⟩) (by assumption) ?_
      rotate_left
      · (intro w hSw; (try dsimp only at hSw); go_simp; try with_reducible rfl)
      try simp only [nmC]
      refine wpAnyG_take (i := 12) (v := ?_) rfl (by kernel_rfl) (by kernel_rfl) (by kernel_rfl) (by kernel_rfl) (by kernel_rfl) (fun _ _ _ h => h) (Or.inl ⟨by rfl, ?_⟩) (by assumption) ?_
      rotate_left
      · (intro w hSw; (try dsimp only at hSw); go_simp; try with_reducible rfl)
      try simp only [nmC]
      refine wpAnyG_ready (rs := [10]) (by kernel_rfl) (by simp) ?_
      refine AllReadyG.cons rfl (fun KK hKK => ?_) AllReadyG.nil
      go_simp
      refine hKK.out _ _ (cell_of_row _ b 2 _ _ _ ((heap_alloc_old _ _ hblt).trans HR.out)) (fun hHeld => ?_)
      clear hKK KK
      try simp only [nmC]
      refine wpAnyG_take (i := 13) (v := ?_) rfl (by kernel_rfl) (by kernel_rfl) (by kernel_rfl) (by kernel_rfl) (by kernel_rfl) (fun _ _ _ h => h) (Or.inl ⟨by rfl, ?_⟩) (by assumption) ?_
      rotate_left
      · (intro w hSw; (try dsimp only at hSw); go_simp; try with_reducible rfl)
      try simp only [nmC]
      refine wpAnyG_ready (rs := [14]) (by kernel_rfl) (by simp) ?_
      refine AllReadyG.cons rfl (fun KK hKK => ?_) AllReadyG.nil
      go_simp
      refine hKK.out _ _ (cell_of_row _ b 2 _ _ _ ((heap_alloc_old _ _ (by simpa using hblt)).trans (heap_setCell_same _ b 3 _ _ _ HR.out))) (fun hHeld => ?_)
      clear hKK KK
      try simp only [nmC]
      refine wpAnyG_done (by kernel_rfl) ?_ _
      go_wp2_with fail
      go_ret
      exact with_new H.out hb hno HR.out (j := 3) ((.inl ⟨rfl, rfl, rfl⟩))
    · go_wp2_with (go_at_call 112; refine (Tryz.strings_IndexByte _ _ _).mono ?_; rintro e w1 ⟨rfl, rfl⟩; rw [show Lib.indexByte _ _ = 0 by kernel_rfl])
      go_ret
      exact WithPost.there H.out hg rfl
  · rcases h1 with ⟨rfl, hno⟩ | ⟨g, rfl, hg⟩
    · go_wp2_with (go_at_call 112; refine (Tryz.strings_IndexByte _ _ _).mono ?_; rintro e w1 ⟨rfl, rfl⟩; rw [show Lib.indexByte _ _ = 1 by kernel_rfl])
      refine wp_region_G [] (fun x => x.cell? ⟨b, 2, none⟩ = some (.int .i64 s.length)) (by rfl) ?_ (fun hHeld => ?_)
      · exact k2
      refine wpAnyG_take (i := 0) (v := ?_) rfl (by kernel_rfl) (by kernel_rfl) (by kernel_rfl) (by kernel_rfl) (by kernel_rfl) (fun _ _ _ h => h) (Or.inl ⟨by rfl, ?_⟩) (by assumption) ?_
      rotate_left
      · (intro w hSw; (try dsimp only at hSw); go_simp; try with_reducible rfl)
      try simp only [nmC]
      refine wpAnyG_take (i := 1) (v := ?_) rfl (by kernel_rfl) (by kernel_rfl) (by kernel_rfl) (by kernel_rfl) (by kernel_rfl) (fun _ _ _ h => h) (Or.inl ⟨by rfl, ?_⟩) (by assumption) ?_
      rotate_left
      · (intro w hSw; (try dsimp only at hSw); go_simp; try with_reducible rfl)
      try simp only [nmC]
      refine wpAnyG_take (i := 2) (v := ?_) rfl (by kernel_rfl) (by kernel_rfl) (by kernel_rfl) (by kernel_rfl) (by kernel_rfl) (fun _ _ _ h => h) (Or.inl ⟨by rfl, ?_⟩) (by assumption) ?_
      rotate_left
      · (intro w hSw; (try dsimp only at hSw); go_simp; try with_reducible rfl)
      try simp only [nmC]
      refine wpAnyG_take (i := 3) (v := ?_) rfl (by kernel_rfl) (by kernel_rfl) (by kernel_rfl) (by kernel_rfl) (by kernel_rfl) (fun _ _ _ h => h) (Or.inl ⟨by rfl, ?_⟩) (by assumption) ?_
      rotate_left
      · (intro w hSw; (try dsimp only at hSw); go_simp; try with_reducible rfl)
      try simp only [nmC]
      refine wpAnyG_take (i := 4) (v := ?_) rfl (by kernel_rfl) (by kernel_rfl) (by kernel_rfl) (by kernel_rfl) (by kernel_rfl) (fun _ _ _ h => h) (Or.inl ⟨by rfl, ?_⟩) (by assumption) ?_
      rotate_left
      · (intro w hSw; (try dsimp only at hSw); go_simp; try with_reducible rfl)
      try simp only [nmC]
      refine wpAnyG_take (i := 5) (v := ?_) rfl (by kernel_rfl) (by kernel_rfl) (by kernel_rfl) (by kernel_rfl) (by kernel_rfl) (fun _ _ _ h => h) (Or.inl ⟨by rfl, ?_⟩) (by assumption) ?_
      rotate_left
      · (intro w hSw; (try dsimp only at hSw); go_simp; try with_reducible rfl)
      try simp only [nmC]
      refine wpAnyG_take (i := 6) (v := ?_) rfl (by kernel_rfl) (by kernel_rfl) (by kernel_rfl) (by kernel_rfl) (by kernel_rfl) (fun _ _ _ h => h) (Or.inl ⟨by rfl, ?_⟩) (by assumption) ?_
      rotate_left
      · (intro w hSw; (try dsimp only at hSw); go_simp; try with_reducible rfl)
      try simp only [nmC]
      refine wpAnyG_take (i := 7) (v := ?_) rfl (by kernel_rfl) (by kernel_rfl) (by kernel_rfl) (by kernel_rfl) (by kernel_rfl) (fun _ _ _ h => h) (Or.inl ⟨by rfl, ?_⟩) (by assumption) ?_
      rotate_left
      · (intro w hSw; (try dsimp only at hSw); go_simp; try with_reducible rfl)
      try simp only [nmC]
      refine wpAnyG_take (i := 8) (v := ?_) rfl (by kernel_rfl) (by kernel_rfl) (by kernel_rfl) (by kernel_rfl) (by kernel_rfl) (fun _ _ _ h => h) (Or.inl ⟨by rfl, ?_⟩) (by assumption) ?_
      rotate_left
      · (intro w hSw; (try dsimp only at hSw); go_simp; try with_reducible rfl)
      try simp only [nmC]
      refine wpAnyG_take (i := 9) (v := ?_) rfl (by kernel_rfl) (by kernel_rfl) (by kernel_rfl) (by kernel_rfl) (by kernel_rfl) (fun _ _ _ h => h) (Or.inl ⟨by rfl, ?_⟩) (by assumption) ?_
      rotate_left
      · (intro w hSw; (try dsimp only at hSw); go_simp; try with_reducible rfl)
      try simp only [nmC]
      refine wpAnyG_take (i := 11) (v := ?_) rfl (by kernel_rfl) (by kernel_rfl) (by kernel_rfl) (by kernel_rfl) (by kernel_rfl) (fun _ _ _ h => h) (Or.inl ⟨by rfl, ?_⟩) (by assumption) ?_
      rotate_left
      · (intro w hSw; (try dsimp only at hSw); go_simp; try with_reducible rfl)
      try simp only [nmC]
      refine wpAnyG_take (i := 12) (v := ?_) rfl (by kernel_rfl) (by kernel_rfl) (by kernel_rfl) (by kernel_rfl) (by kernel_rfl) (fun _ _ _ h => h) (Or.inl ⟨by rfl, ?_⟩) (by assumption) ?_
      rotate_left
      · (intro w hSw; (try dsimp only at hSw); go_simp; try with_reducible rfl)
      try simp only [nmC]
      refine wpAnyG_ready (rs := [10]) (by kernel_rfl) (by simp) ?_
      refine AllReadyG.cons rfl (fun KK hKK => ?_) AllReadyG.nil
      go_simp
      refine hKK.out _ _ (cell_of_row _ b 2 _ _ _ ((heap_alloc_old _ _ hblt).trans HR.out)) (fun hHeld => ?_)
      clear hKK KK
      try simp only [nmC]
      refine wpAnyG_take (i := 13) (v := ?_) rfl (by kernel_rfl) (by kernel_rfl) (by kernel_rfl) (by kernel_rfl) (by kernel_rfl) (fun _ _ _ h => h) (Or.inl ⟨by rfl, ?_⟩) (by assumption) ?_
      rotate_left
      · (intro w hSw; (try dsimp only at hSw); go_simp; try with_reducible rfl)
      try simp only [nmC]
      refine wpAnyG_ready (rs := [14]) (by kernel_rfl) (by simp) ?_
      refine AllReadyG.cons rfl (fun KK hKK => ?_) AllReadyG.nil
      go_simp
      refine hKK.out _ _ (cell_of_row _ b 2 _ _ _ ((heap_alloc_old _ _ (by simpa using hblt)).trans (heap_setCell_same _ b 4 _ _ _ HR.out))) (fun hHeld => ?_)
      clear hKK KK
      try simp only [nmC]
      refine wpAnyG_done (by kernel_rfl) ?_ _
      go_wp2_with fail
      go_ret
      exact with_new H.out hb hno HR.out (j := 4) ((.inr (.inl ⟨rfl, rfl, rfl⟩)))
    · go_wp2_with (go_at_call 112; refine (Tryz.strings_IndexByte _ _ _).mono ?_; rintro e w1 ⟨rfl, rfl⟩; rw [show Lib.indexByte _ _ = 1 by kernel_rfl])
      go_ret
      exact WithPost.there H.out hg rfl
  · rcases h2 with ⟨rfl, hno⟩ | ⟨g, rfl, hg⟩
    · go_wp2_with (go_at_call 112; refine (Tryz.strings_IndexByte _ _ _).mono ?_; rintro e w1 ⟨rfl, rfl⟩; rw [show Lib.indexByte _ _ = 2 by kernel_rfl])
      refine wp_region_G [] (fun x => x.cell? ⟨b, 2, none⟩ = some (.int .i64 s.length)) (by rfl) ?_ (fun hHeld => ?_)
      · exact k2
      refine wpAnyG_take (i := 0) (v := ?_) rfl (by kernel_rfl) (by kernel_rfl) (by kernel_rfl) (by kernel_rfl) (by kernel_rfl) (fun _ _ _ h => h) (Or.inl ⟨by rfl, ?_⟩) (by assumption) ?_
      rotate_left
      · (intro w hSw; (try dsimp only at hSw); go_simp; try with_reducible rfl)
      try simp only [nmC]
      refine wpAnyG_take (i := 1) (v := ?_) rfl (by kernel_rfl) (by kernel_rfl) (by kernel_rfl) (by kernel_rfl) (by kernel_rfl) (fun _ _ _ h => h) (Or.inl ⟨by rfl, ?_⟩) (by assumption) ?_
      rotate_left
      · (intro w hSw; (try dsimp only at hSw); go_simp; try with_reducible rfl)
      try simp only [nmC]
      refine wpAnyG_take (i := 2) (v := ?_) rfl (by kernel_rfl) (by kernel_rfl) (by kernel_rfl) (by kernel_rfl) (by kernel_rfl) (fun _ _ _ h => h) (Or.inl ⟨by rfl, ?_⟩) (by assumption) ?_
      rotate_left
      · (intro w hSw; (try dsimp only at hSw); go_simp; try with_reducible rfl)
      try simp only [nmC]
      refine wpAnyG_take (i := 3) (v := ?_) rfl (by kernel_rfl) (by kernel_rfl) (by kernel_rfl) (by kernel_rfl) (by kernel_rfl) (fun _ _ _ h => h) (Or.inl ⟨by rfl, ?_⟩) (by assumption) ?_
      rotate_left
      · (intro w hSw; (try dsimp only at hSw); go_simp; try with_reducible rfl)
      try simp only [nmC]
      refine wpAnyG_take (i := 4) (v := ?_) rfl (by kernel_rfl) (by kernel_rfl) (by kernel_rfl) (by kernel_rfl) (by kernel_rfl) (fun _ _ _ h => h) (Or.inl ⟨by rfl, ?_⟩) (by assumption) ?_
      rotate_left
      · (intro w hSw; (try dsimp only at hSw); go_simp; try with_reducible rfl)
      try simp only [nmC]
      refine wpAnyG_take (i := 5) (v := ?_) rfl (by kernel_rfl) (by kernel_rfl) (by kernel_rfl) (by kernel_rfl) (by kernel_rfl) (fun _ _ _ h => h) (Or.inl ⟨by rfl, ?_⟩) (by assumption) ?_
      rotate_left
      · (intro w hSw; (try dsimp only at hSw); go_simp; try with_reducible rfl)
      try simp only [nmC]
      refine wpAnyG_take (i := 6) (v := ?_) rfl (by kernel_rfl) (by kernel_rfl) (by kernel_rfl) (by kernel_rfl) (by kernel_rfl) (fun _ _ _ h => h) (Or.inl ⟨by rfl, ?_⟩) (by assumption) ?_
      rotate_left
      · (intro w hSw; (try dsimp only at hSw); go_simp; try with_reducible rfl)
      try simp only [nmC]
      refine wpAnyG_take (i := 7) (v := ?_) rfl (by kernel_rfl) (by kernel_rfl) (by kernel_rfl) (by kernel_rfl) (by kernel_rfl) (fun _ _ _ h => h) (Or.inl ⟨by rfl, ?_⟩) (by assumption) ?_
      rotate_left
      · (intro w hSw; (try dsimp only at hSw); go_simp; try with_reducible rfl)
      try simp only [nmC]
      refine wpAnyG_take (i := 8) (v := ?_) rfl (by kernel_rfl) (by kernel_rfl) (by kernel_rfl) (by kernel_rfl) (by kernel_rfl) (fun _ _ _ h => h) (Or.inl ⟨by rfl, ?_⟩) (by assumption) ?_
      rotate_left
      · (intro w hSw; (try dsimp only at hSw); go_simp; try with_reducible rfl)
      try simp only [nmC]
      refine wpAnyG_take (i := 9) (v := ?_) rfl (by kernel_rfl) (by kernel_rfl) (by kernel_rfl) (by kernel_rfl) (by kernel_rfl) (fun _ _ _ h => h) (Or.inl ⟨by rfl, ?_⟩) (by assumption) ?_
      rotate_left
      · (intro w hSw; (try dsimp only at hSw); go_simp; try with_reducible rfl)
      try simp only [nmC]
      refine wpAnyG_take (i := 11) (v := ?_) rfl (by kernel_rfl) (by kernel_rfl) (by kernel_rfl) (by kernel_rfl) (by kernel_rfl) (fun _ _ _ h => h) (Or.inl ⟨by rfl, ?_⟩) (by assumption) ?_
      rotate_left
      · (intro w hSw; (try dsimp only at hSw); go_simp; try with_reducible rfl)
      try simp only [nmC]
      refine wpAnyG_take (i := 12) (v := ?_) rfl (by kernel_rfl) (by kernel_rfl) (by kernel_rfl) (by kernel_rfl) (by kernel_rfl) (fun _ _ _ h => h) (Or.inl ⟨by rfl, ?_⟩) (by assumption) ?_
      rotate_left
      · (intro w hSw; (try dsimp only at hSw); go_simp; try with_reducible rfl)
      try simp only [nmC]
      refine wpAnyG_ready (rs := [10]) (by kernel_rfl) (by simp) ?_
      refine AllReadyG.cons rfl (fun KK hKK => ?_) AllReadyG.nil
      go_simp
      refine hKK.out _ _ (cell_of_row _ b 2 _ _ _ ((heap_alloc_old _ _ hblt).trans HR.out)) (fun hHeld => ?_)
      clear hKK KK
      try simp only [nmC]
      refine wpAnyG_take (i := 13) (v := ?_) rfl (by kernel_rfl) (by kernel_rfl) (by kernel_rfl) (by kernel_rfl) (by kernel_rfl) (fun _ _ _ h => h) (Or.inl ⟨by rfl, ?_⟩) (by assumption) ?_
      rotate_left
      · (intro w hSw; (try dsimp only at hSw); go_simp; try with_reducible rfl)
      try simp only [nmC]
      refine wpAnyG_ready (rs := [14]) (by kernel_rfl) (by simp) ?_
      refine AllReadyG.cons rfl (fun KK hKK => ?_) AllReadyG.nil
      go_simp
      refine hKK.out _ _ (cell_of_row _ b 2 _ _ _ ((heap_alloc_old _ _ (by simpa using hblt)).trans (heap_setCell_same _ b 5 _ _ _ HR.out))) (fun hHeld => ?_)
      clear hKK KK
      try simp only [nmC]
      refine wpAnyG_done (by kernel_rfl) ?_ _
      go_wp2_with fail
      go_ret
      exact with_new H.out hb hno HR.out (j := 5) ((.inr (.inr ⟨rfl, rfl, rfl⟩)))
    · go_wp2_with (go_at_call 112; refine (Tryz.strings_IndexByte _ _ _).mono ?_; rintro e w1 ⟨rfl, rfl⟩; rw [show Lib.indexByte _ _ = 2 by kernel_rfl])
      go_ret
      exact WithPost.there H.out hg rfl
end Go.Proofs.YtdjbkppdppdcgaaGreatDoor

namespace Go.Proofs.YtdjbkppdppdcgaaGreatDoor
open Go.RowKit

def insV (x : Ci) : Value := .agg #[.int .i64 x.op, .int .i64 x.a, .int .i64 x.b, .string x.text, .int .i64 x.at_]
theorem Below.drewN' {B : Nat} {a b : World} (h : Below B a b) (k : Nat) : Below B a (b.drewN k) := ⟨h.os, h.tape, h.output, h.size, h.block⟩
/-- What counted answers. -/
def CountedOk (x : Ci) : Prop := ∀ w, Calls Tryz.prog 87 #[insV x] w fun e w' => e = .returned (.tuple #[.int .u8 (countedP x).1.toNat, .int .i64 (countedP x).2]) ∧ Below w.heap.size w w'

set_option maxRecDepth 100000 in
set_option maxHeartbeats 4000000 in
theorem counted_any (x : Ci) (hc : 0 ≤ (countedP x).2 ∧ (countedP x).2 ≤ 40000) (hs : x.op ≠ 26) : CountedOk x := by
  intro w
  obtain ⟨op, a, b, text, at_⟩ := x
  simp only [insV]
  dsimp only at hs
  have HC := Lib.hid hc
  clear hc
  have ht : op = 27 ∨ op = 29 ∨ op = 46 ∨ op = 47 ∨ op = 48 ∨ op = 49 ∨ op = 28 ∨ op = 53 ∨ (op ≠ 27 ∧ op ≠ 29 ∧ op ≠ 46 ∧ op ≠ 47 ∧ op ≠ 48 ∧ op ≠ 49 ∧ op ≠ 28 ∧ op ≠ 53) := by omega
  go_enter Tryz.func87, Tryz.ntmps87
  rcases ht with rfl | rfl | rfl | rfl | rfl | rfl | rfl | rfl | ⟨h1, h2, h3, h4, h5, h6, h7, h9⟩
  iterate 6
    · go_wp2_with fail
      go_quiet (fail)
      go_wp2_with fail
      go_ret2
      exact ⟨by simp [countedP], Below.drewN' ((Below.refl _ _).alloc (Nat.le_refl _) _) _⟩
  · have h2 := HC.out
    simp only [countedP] at h2
    simp at h2
    go_wp2_with fail
    go_quiet (fail)
    go_wp2_with fail
    go_ret2
    exact ⟨by simp [countedP], Below.drewN' ((Below.refl _ _).alloc (Nat.le_refl _) _) _⟩
  · go_wp2_with fail
    go_quiet (fail)
    go_wp2_with fail
    go_ret2
    exact ⟨by simp [countedP], Below.drewN' ((Below.refl _ _).alloc (Nat.le_refl _) _) _⟩
  · have g1 : (op == 27) = false := by simp [h1]
    have g2 : (op == 29) = false := by simp [h2]
    have g3 : (op == 46) = false := by simp [h3]
    have g4 : (op == 47) = false := by simp [h4]
    have g5 : (op == 48) = false := by simp [h5]
    have g6 : (op == 49) = false := by simp [h6]
    have g7 : (op == 28) = false := by simp [h7]
    have g8 : (op == 26) = false := by simp [hs]
    have g9 : (op == 53) = false := by simp [h9]
    go_wp2_with fail
    go_ret2
    exact ⟨by simp [countedP, h1, h2, h3, h4, h5, h6, h7, hs, h9], (Below.refl _ _).alloc (Nat.le_refl _) _⟩
end Go.Proofs.YtdjbkppdppdcgaaGreatDoor
