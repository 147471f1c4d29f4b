/- The printer: its strings.Builder (copyCheck, WriteString, Len, String); put. tree.level at every node. -/
import Derived.Lib.AppendStr
import Derived.Lib.OthersKept
import Derived.Lib.Builder
import Derived.Lib.UnsafeStr
import Derived.Test.YtjpmghgmmeemkaaGreatDoorLex1
import Derived.Test.YtjpmghgmmeemkaaGreatDoorNd
namespace Go.Proofs.YtjpmghgmmeemkaaGreatDoor
open Go.RowKit

theorem byteInfo : (Tryz.prog.info? 5).map (fun i => (i.zero, i.size, i.bytes)) = some (some (.int .u8 0), 1, 1) := by kernel_rfl
theorem sizeB : (Tryz.prog.info? 68).map (·.size) = some 2 := by kernel_rfl
theorem liesB : liesAt Tryz.prog Tryz.prog.depth 70 (3 / Tryz.prog.cellsOf 70) 0 68 1 = true := by kernel_rfl

/-- A printer in block bp: its builder holds the bytes bs; addr holds p. -/
def PrIs (p : Value) (bp : Nat) (bs : List UInt8) (lg : Bool) (w : World) : Prop :=
  ∃ v, w.heap[bp]? = some (.cells #[p, v, .bool lg] 70 (0, 0)) ∧ w.ownsRow (bp + 1) 5 1 v bs.length (Lib.byteCells bs)
def PrAt (bp : Nat) (bs : List UInt8) (lg : Bool) (w : World) : Prop := PrIs (.pointer none) bp bs lg w ∨ PrIs (.pointer (some ⟨bp, 0, none⟩)) bp bs lg w
/-- What printing keeps. -/
structure PF (bp : Nat) (w w' : World) : Prop where
  below : Below bp w w'
  others : Lib.OthersKept 5 (some bp) w w'
theorem PF.refl (bp : Nat) (w : World) : PF bp w w := ⟨Below.refl _ _, Lib.OthersKept.refl _ _ _⟩
theorem PF.trans {bp : Nat} {a b c : World} (h : PF bp a b) (k : PF bp b c) : PF bp a c := ⟨h.below.trans k.below, h.others.trans k.others⟩
theorem PF.set {bp : Nat} {a b : World} (h : PF bp a b) (i : Nat) (v : Value) : PF bp a (b.setCell ⟨bp, i, none⟩ v) := ⟨h.below.setCell (p := ⟨bp, i, none⟩) (Nat.le_refl _) v, h.others.setCell ⟨bp, i, none⟩ rfl v⟩
theorem PF.alloc {bp : Nat} {a b : World} (h : PF bp a b) (hb : bp ≤ b.heap.size) (o : Obj) : PF bp a (b.alloc o) := ⟨h.below.alloc hb o, h.others.alloc o⟩
theorem PF.drew {bp : Nat} {a b : World} (h : PF bp a b) : PF bp a b.drew := ⟨h.below.drew, h.others.drew⟩
theorem PF.row {bp k : Nat} {a b : World} (h : PF bp a b) {cs : Array Value} {T : TypeId} {fr : Nat × Nat} (hk : a.heap[k]? = some (.cells cs T fr)) (hne : k ≠ bp) (hT : T ≠ 5) : b.heap[k]? = some (.cells cs T fr) :=
  h.others k _ hk (fun e => hne (Option.some.inj e)) (fun c fz e => hT (by cases e; rfl))

theorem PrIs.lt {p : Value} {bp : Nat} {bs : List UInt8} {lg : Bool} {w : World} (h : PrIs p bp bs lg w) : bp < w.heap.size := by
  obtain ⟨v, h, _⟩ := h
  exact (Array.getElem?_eq_some_iff.1 h).1
theorem PrAt.lt {bp : Nat} {bs : List UInt8} {lg : Bool} {w : World} (h : PrAt bp bs lg w) : bp < w.heap.size := h.elim PrIs.lt PrIs.lt
theorem owns_ne {w : World} {bp : Nat} {v : Value} {n : Nat} {xs : List Value} (h : w.ownsRow (bp + 1) 5 1 v n xs) : v.ownBlock ≠ some bp := fun e => by have := (h.lt bp e).1; omega

/-- A store into the printer's own block. -/
theorem PrIs.put {_p p' _v v' : Value} {bp : Nat} {_bs bs' : List UInt8} {_lg lg' : Bool} {w w' : World} (hrow : w'.heap[bp]? = some (.cells #[p', v', .bool lg'] 70 (0, 0))) (hown : w.ownsRow (bp + 1) 5 1 v' bs'.length (Lib.byteCells bs')) (hk : ∀ k, k ≠ bp → w'.heap[k]? = w.heap[k]?) (_hs : w.heap.size ≤ w'.heap.size) : PrIs p' bp bs' lg' w' := by
  refine ⟨v', hrow, ?_⟩
  refine ⟨hown.1, hown.2.imp id ?_⟩
  rintro ⟨g, cap, cur, rfl, hb, hg, h1, h2, h3, h4⟩
  exact ⟨g, cap, cur, rfl, hb, (hk g (by omega)).trans hg, h1, h2, h3, h4⟩

set_option maxHeartbeats 1000000 in
set_option maxRecDepth 100000 in
theorem copyCheck_p (bp : Nat) (bs : List UInt8) (lg : Bool) (w : World) (h : PrAt bp bs lg w) :
    Calls Tryz.prog 90 #[.pointer (some ⟨bp, 0, none⟩)] w fun e w' => e = .returned (.tuple #[]) ∧ PrIs (.pointer (some ⟨bp, 0, none⟩)) bp bs lg w' ∧ PF bp w w' := by
  obtain ⟨j, hj, hjs⟩ := Option.map_eq_some_iff.1 sizeB
  rcases h with ⟨v, hrow, hown⟩ | ⟨v, hrow, hown⟩
  · have h0 : w.cell? ⟨bp, 0, none⟩ = some (.pointer none) := cell_of_row w _ 0 _ _ _ hrow
    have hfz : w.frozen? ⟨bp, 0, none⟩ = false := frozen_of_row w _ 0 _ _ hrow
    have hsh : w.shape? bp = some (70, 3) := by simp [World.shape?, hrow]
    have hput : PrIs (.pointer (some ⟨bp, 0, none⟩)) bp bs lg (w.setCell ⟨bp, 0, none⟩ (.pointer (some ⟨bp, 0, none⟩))) :=
      PrIs.put (_p := .pointer none) (_v := v) (_bs := bs) (_lg := lg) (heap_setCell_same w bp 0 _ _ (.pointer (some ⟨bp, 0, none⟩)) hrow) hown (fun k hk => Below.heap_setCell _ _ _ _ hk) (by simp)
    have HP := Lib.hid hput
    have HPF := Lib.hid ((PF.refl bp w).set 0 (.pointer (some ⟨bp, 0, none⟩)))
    clear hput
    go_enter Tryz.func90, Tryz.ntmps90
    go_wp2
    rw [Lib.run_to_unsafe w ⟨bp, 0, none⟩ Tryz.underlying65 Tryz.underlying79 hj (by rw [hjs]; decide) hsh (Nat.zero_lt_succ 2)]
    simp only [Result.andThen]
    rw [Oper.upon_value]
    go_wp2
    rw [run_callFunc_extern Tryz.func103 (by kernel_rfl) (by kernel_rfl) (by kernel_rfl) (e := Extern.AbiNoEscape.same) (by kernel_rfl)]
    rw [Lib.run_noEscape]
    simp only [Result.andThen]
    rw [Oper.upon_value]
    go_wp2
    rw [Lib.run_from_unsafe w ⟨bp, 0, none⟩ Tryz.underlying79 Tryz.underlying65 hj hsh liesB]
    simp only [Result.andThen]
    rw [Oper.upon_value]
    go_wp2
    go_end0
    exact ⟨rfl, HP.out, HPF.out⟩
  · have h0 : w.cell? ⟨bp, 0, none⟩ = some (.pointer (some ⟨bp, 0, none⟩)) := cell_of_row w _ 0 _ _ _ hrow
    have HP := Lib.hid (⟨v, hrow, hown⟩ : PrIs (.pointer (some ⟨bp, 0, none⟩)) bp bs lg w)
    clear hrow hown
    go_enter Tryz.func90, Tryz.ntmps90
    go_wp2
    rw [Lib.run_neq_ptr_same _ _ Tryz.underlying65 hj]
    go_wp2
    go_end0
    exact ⟨rfl, HP.out, PF.refl _ _⟩

theorem byteCells_str (bs : List UInt8) (s : ByteArray) : Lib.byteCells (bs ++ s.data.toList) = Lib.byteCells bs ++ Lib.strCells s := by simp [Lib.byteCells, Lib.strCells]

set_option maxHeartbeats 2000000 in
set_option maxRecDepth 100000 in
theorem WriteString_p (bp : Nat) (bs : List UInt8) (lg : Bool) (s : ByteArray) (w : World) (h : PrAt bp bs lg w) (hlen : bs.length + s.size ≤ 140737488355328) :
    Calls Tryz.prog 74 #[.pointer (some ⟨bp, 0, none⟩), .string s] w fun e w' => e = .returned (.tuple #[.int .i64 s.size, .nilIface]) ∧ PrIs (.pointer (some ⟨bp, 0, none⟩)) bp (bs ++ s.data.toList) lg w' ∧ PF bp w w' := by
  obtain ⟨i0, hi, hz0, hz1, hz2⟩ := info_parts byteInfo
  go_enter Tryz.func74, Tryz.ntmps74
  go_wp2_with (go_at_call 90; refine (copyCheck_p bp bs lg _ h).mono ?_)
  rintro e w1 ⟨rfl, h1, hb1⟩
  have hlt := h1.lt
  obtain ⟨v, hbk, hown⟩ := h1
  have hne := owns_ne hown
  have c0 : w1.cell? ⟨bp, 0, none⟩ = some (.pointer (some ⟨bp, 0, none⟩)) := cell_of_row w1 _ 0 _ _ _ hbk
  have c1 : w1.cell? ⟨bp, 1, none⟩ = some v := cell_of_row w1 _ 1 _ _ _ hbk
  go_wp2_with (at_builtin; go_must (refine Lib.wpList_append_own_string _ rfl _ _ 66 9 rfl (bp + 1) 5 i0 Tryz.underlying66 Tryz.underlying9 hi hz0 hz1 hz2 _ _ _ rfl hown s rfl ?c3 ?c4 ?c5 ?_))
  case c3 => unfold maxLen; omega
  case c4 => omega
  case c5 => omega
  intro v' w2 hown' hgrow _
  have hb2 : w2.heap[bp]? = some (.cells #[.pointer (some ⟨bp, 0, none⟩), v, .bool lg] 70 (0, 0)) := by
    rw [hgrow.block bp hlt (fun e => hne e.symm)]
    exact hbk
  have d0 : w2.cell? ⟨bp, 0, none⟩ = some (.pointer (some ⟨bp, 0, none⟩)) := cell_of_row w2 _ 0 _ _ _ hb2
  have d1 : w2.cell? ⟨bp, 1, none⟩ = some v := cell_of_row w2 _ 1 _ _ _ hb2
  have f1 : w2.frozen? ⟨bp, 1, none⟩ = false := frozen_of_row w2 _ 1 _ _ hb2
  obtain ⟨ao, n', cap, rfl⟩ : ∃ ao n' cap, v' = .slice ao n' cap := by
    rcases hown'.2 with ⟨hv, _⟩ | ⟨g, cap, cur, hv, _⟩
    · exact ⟨_, _, _, hv⟩
    · exact ⟨_, _, _, hv⟩
  have hput : PrIs (.pointer (some ⟨bp, 0, none⟩)) bp (bs ++ s.data.toList) lg (w2.setCell ⟨bp, 1, none⟩ (.slice ao n' cap)) := by
    refine PrIs.put (_p := .pointer (some ⟨bp, 0, none⟩)) (_v := v) (_bs := bs) (_lg := lg) (heap_setCell_same w2 bp 1 _ _ _ hb2) ?_ (fun k hk => Below.heap_setCell _ _ _ _ hk) (by simp)
    rw [byteCells_str]
    have hl : (bs ++ s.data.toList).length = bs.length + s.size := by simp
    rw [hl]
    exact hown'
  have hpf : PF bp w (w2.setCell ⟨bp, 1, none⟩ (.slice ao n' cap)) := by
    refine PF.set ⟨hb1.below.grown hgrow (by omega) (fun k hk => by have := (hown.lt k hk).1; omega), hb1.others.grown hgrow ?_⟩ 1 _
    intro g hg
    rcases hown.2 with ⟨hv, _⟩ | ⟨g', cap', cur, hv, _, hgc, _⟩
    · rw [hv] at hg; cases hg
    · rw [hv] at hg; cases hg; exact ⟨_, _, hgc⟩
  have HP := Lib.hid hput
  have HPF := Lib.hid hpf
  clear hput hpf
  go_wp2
  go_ret2
  exact ⟨rfl, HP.out, HPF.out⟩

set_option maxHeartbeats 1000000 in
set_option maxRecDepth 100000 in
theorem Len_p (bp : Nat) (bs : List UInt8) (lg : Bool) (w : World) (h : PrAt bp bs lg w) :
    Calls Tryz.prog 73 #[.pointer (some ⟨bp, 0, none⟩)] w fun e w' => e = .returned (.int .i64 bs.length) ∧ w' = w := by
  obtain ⟨p, v, hbk, hown⟩ : ∃ p, PrIs p bp bs lg w := h.elim (fun h => ⟨_, h⟩) (fun h => ⟨_, h⟩)
  obtain ⟨ao, cap, rfl⟩ : ∃ ao cap, v = .slice ao bs.length cap := by
    rcases hown.2 with ⟨hv, h0⟩ | ⟨g, cap, cur, hv, _⟩
    · exact ⟨none, 0, by rw [hv, h0]⟩
    · exact ⟨_, _, hv⟩
  have c1 : w.cell? ⟨bp, 1, none⟩ = some (.slice ao bs.length cap) := cell_of_row w _ 1 _ _ _ hbk
  go_enter Tryz.func73, Tryz.ntmps73
  go_wp2
  go_ret
  exact ⟨rfl, rfl⟩


/-- What put does to the text. -/
def putL : List UInt8 × Bool → List ByteArray → List UInt8 × Bool
  | x, [] => x
  | x, s :: r => if 60000 < x.1.length + s.size then (x.1, true) else putL (x.1 ++ s.data.toList, x.2) r
theorem putL_len : ∀ (ss : List ByteArray) (x : List UInt8 × Bool), x.1.length ≤ 60000 → (putL x ss).1.length ≤ 60000
  | [], x, h => h
  | s :: r, x, h => by
    unfold putL
    split
    · exact h
    · exact putL_len r _ (by simp; omega)

set_option maxHeartbeats 2000000 in
set_option maxRecDepth 100000 in
theorem put_any (bp b cap : Nat) (ss : List ByteArray) (bs : List UInt8) (lg : Bool) (w : World) (h : PrAt bp bs lg w) (hlen : bs.length ≤ 60000) (hss : ∀ s ∈ ss, s.size ≤ 140737488351232) (_hcap : ss.length ≤ cap) (h63 : ss.length ≤ 1000)
    (hb : w.heap[b]? = some (.cells (ss.map Value.string).toArray 9 (0, 0))) (hne : b ≠ bp) :
    Calls Tryz.prog 49 #[.pointer (some ⟨bp, 0, none⟩), .slice (some ⟨b, 0, none⟩) ss.length cap] w fun e w' =>
      e = .returned (.tuple #[]) ∧ PrAt bp (putL (bs, lg) ss).1 (putL (bs, lg) ss).2 w' ∧ (putL (bs, lg) ss).1.length ≤ 60000 ∧ PF bp w w' := by
  have hl := putL_len ss (bs, lg) hlen
  obtain ⟨r, HR⟩ : ∃ r, Hid (putL (bs, lg) ss = r) := ⟨_, rfl⟩
  rw [HR.out] at hl ⊢
  have HL := Lib.hid hl
  have HP := Lib.hid h
  have HB := Lib.hid hb
  clear hl h hb
  go_enter Tryz.func49, Tryz.ntmps49
  go_wp2
  go_loopw [8] (fun i wr => ∃ (j : Nat) (bs' : List UInt8), j ≤ ss.length ∧ i = .int .i64 j ∧ Hid (PrAt bp bs' lg wr) ∧ bs'.length ≤ 60000 ∧ Hid (putL (bs', lg) (ss.drop j) = r) ∧ Hid (PF bp w wr)) (fun i _ => ss.length - (intOf i).toNat)
  case atStart => exact ⟨0, bs, Nat.zero_le _, rfl, HP, hlen, by simpa using HR, Lib.hid (PF.refl _ _)⟩
  case round =>
    obtain ⟨j, bs', hj, rfl, HPr, hl', HRr, HPF⟩ := hrel
    by_cases hlt : j < ss.length
    · obtain ⟨s, hs⟩ : ∃ s, ss[j]? = some s := ⟨ss[j], List.getElem?_eq_getElem hlt⟩
      have hsz := hss s (List.mem_of_getElem? hs)
      have hc : wr.cell? ⟨b, j, none⟩ = some (.string s) := by
        rw [cell_of_row _ _ j _ _ _ (HPF.out.row HB.out hne (by decide))]
        simp [hs]
      have HD := Lib.hid (drop_cons hs)
      clear hs
      have hadd : wrap64 ((bs'.length : Int) + (s.size : Int)) = (bs'.length : Int) + (s.size : Int) := by unfold wrap64; omega
      obtain ⟨p, v, hp01, hrow, hown⟩ : ∃ p v, (p = .pointer none ∨ p = .pointer (some ⟨bp, 0, none⟩)) ∧ wr.heap[bp]? = some (.cells #[p, v, .bool lg] 70 (0, 0)) ∧ wr.ownsRow (bp + 1) 5 1 v bs'.length (Lib.byteCells bs') := by
        rcases HPr.out with ⟨v, h1, h2⟩ | ⟨v, h1, h2⟩
        · exact ⟨_, v, .inl rfl, h1, h2⟩
        · exact ⟨_, v, .inr rfl, h1, h2⟩
      have c2 : wr.cell? ⟨bp, 2, none⟩ = some (.bool lg) := cell_of_row wr _ 2 _ _ _ hrow
      have g2 : wr.frozen? ⟨bp, 2, none⟩ = false := frozen_of_row wr _ 2 _ _ hrow
      have hput : PrAt bp bs' true (wr.setCell ⟨bp, 2, none⟩ (.bool true)) := by
        have h := PrIs.put (_p := p) (_v := v) (_bs := bs') (_lg := lg) (lg' := true) (heap_setCell_same wr bp 2 _ _ (.bool true) hrow) hown (fun k hk => Below.heap_setCell _ _ _ _ hk) (by simp)
        rcases hp01 with rfl | rfl
        · exact .inl h
        · exact .inr h
      have HT := Lib.hid hput
      clear hput hrow hown hp01
      by_cases hbig : 60000 < bs'.length + s.size
      · have hbig' : (60000 : Int) < (bs'.length : Int) + (s.size : Int) := by omega
        go_wp2_with (go_at_call 73; refine (Len_p bp bs' lg _ HPr.out).mono ?_; rintro e w1 ⟨rfl, rfl⟩)
        refine bodyPost_ret (results_none rfl _ _ _) rfl ?_
        have hr := HRr.out
        rw [HD.out, putL, if_pos hbig] at hr
        rw [← hr]
        exact ⟨rfl, HT.out, hl', HPF.out.set 2 _⟩
      · have hbig' : (bs'.length : Int) + (s.size : Int) ≤ 60000 := by omega
        have HW := Lib.hid (WriteString_p bp bs' lg s wr HPr.out (by omega))
        go_wp2_with (first
          | (go_at_call 73; refine (Len_p bp bs' lg _ HPr.out).mono ?_; rintro e w1 ⟨rfl, rfl⟩)
          | (go_at_call 74; refine HW.out.mono ?_; rintro e w2 ⟨rfl, h1, h2⟩))
        go_roundw
        case rel =>
          refine ⟨j + 1, bs' ++ s.data.toList, by omega, by simp, .inr h1, by simp; omega, ?_, HPF.out.trans h2⟩
          have hr := HRr.out
          rw [HD.out, putL, if_neg hbig] at hr
          exact hr
        case measure => simp [intOf]; omega
    · obtain rfl : j = ss.length := by omega
      go_wp2
      go_end0
      have hr := HRr.out
      rw [List.drop_length] at hr
      rw [← hr]
      exact ⟨rfl, HPr.out, hl', HPF.out⟩

end Go.Proofs.YtjpmghgmmeemkaaGreatDoor

namespace Go.Proofs.YtjpmghgmmeemkaaGreatDoor
open Go.RowKit

def opLevel (l : List UInt8) : Int :=
  if l = [124, 124] then 1 else if l = [38, 38] then 2
  else if l = [43] ∨ l = [45] ∨ l = [124] ∨ l = [94] then 4
  else if l = [42] ∨ l = [47] ∨ l = [37] ∨ l = [38] ∨ l = [60, 60] ∨ l = [62, 62] then 5 else 3
def levelB (k : Int) (s : ByteArray) : Int := if k = 50 ∨ k = 42 then 6 else if k = 51 then opLevel s.toList else 7

set_option maxRecDepth 100000 in
set_option maxHeartbeats 4000000 in
theorem level_any (k : Int) (s : ByteArray) (n a : Int) (A : Option Addr) (len cap : Nat) (w : World) :
    Calls Tryz.prog 84 #[.agg #[.int .i64 k, .string s, .int .i64 n, .int .i64 a, .slice A len cap]] w fun e w' => e = .returned (.int .i64 (levelB k s)) ∧ w' = w.alloc (.cells #[.int .i64 k, .string s, .int .i64 n, .int .i64 a, .slice A len cap] 24) := by
  obtain ⟨r, HF⟩ : ∃ r, Hid (levelB k s = r) := ⟨_, rfl⟩
  rw [HF.out]
  go_enter Tryz.func84, Tryz.ntmps84
  go_wp2
  all_goals go_ret
  all_goals refine ⟨ret_int ?_, rfl⟩
  all_goals rw [← HF.out]
  all_goals clear HF
  all_goals simp_all [levelB, opLevel]
end Go.Proofs.YtjpmghgmmeemkaaGreatDoor
