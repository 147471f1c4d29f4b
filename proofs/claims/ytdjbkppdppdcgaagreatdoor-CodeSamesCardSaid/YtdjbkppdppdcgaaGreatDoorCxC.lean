/- code.Right of a program of one function, all of whose instructions are plain. -/
import Derived.Test.YtdjbkppdppdcgaaGreatDoorMCwX
import Derived.Test.YtdjbkppdppdcgaaGreatDoorCwQ
import Derived.Test.YtdjbkppdppdcgaaGreatDoorMScanA
namespace Go.Proofs.YtdjbkppdppdcgaaGreatDoor
open Go.RowKit

/-- What Right answers. -/
def RightPost (w : World) (o : Option Cwr) (e : Ending) (w' : World) : Prop := Below w.heap.size w w' ∧ match o with
  | none => e = .returned .nilIface
  | some c => ∃ b, e = .returned (.iface 61 (.pointer (some ⟨b, 0, none⟩))) ∧ w.heap.size ≤ b ∧ WrAt w' b c.code c.at_ c.ins
/-- What is asked of such a program. -/
structure Plain (p : Cp) (f : Cf) : Prop where
  one : One p f
  head : headedB p.funcs 0 f [] = true
  ne : 0 < f.code.length
  pl : ∀ (k : Nat) (x : Ci), f.code[k]? = some x → PlainI p 0 x ∧ (k + 1 < f.code.length ∨ x.op = 50 ∨ x.op = 34) ∧ FitI f.code k x
  cnt : ∀ x ∈ f.code, CountedOk x
def rightR : Option Int → Option Cwr
  | some k => some ⟨130, 0, some k⟩
  | none => none
set_option maxRecDepth 100000 in
set_option maxHeartbeats 4000000 in
theorem right_plain {p : Cp} {f : Cf} (hp : Plain p f) {v : Value} {w : World} (hG : Gc w) (hv : LiesC w w.heap.size p v) {R : Option Int} (hr : fitsP f.code = R) (hrb : ∀ k, R = some k → 0 ≤ k ∧ k ≤ 60000) :
    Calls Tryz.prog 13 #[v] w (RightPost w (rightR R)) := by
  have ho := hp.one
  have HR := Lib.hid hr
  have HRB := Lib.hid hrb
  obtain ⟨g, off, fc, ga, gc, fv, rfl, hfc, hA⟩ := hv.one ho
  have HV := Lib.hid hv
  have HO := Lib.hid ho
  have HK := Lib.hid hp
  have HGc := Lib.hid hG
  have HA := Lib.hid hA
  obtain ⟨n, hn⟩ : ∃ n, f.code.length = n := ⟨_, rfl⟩
  have HN := Lib.hid hn
  have hg := hA.lt
  have h1 := ho.code
  have h2 := hp.ne
  rw [hn] at h1 h2
  have HLV := Lib.hid (fun (W : World) (hb : Below w.heap.size w W) => (HV.out.keep hb.block).more hb.size)
  have HCS := Lib.hid (fun (W : World) (hb : Below w.heap.size w W) => (hA.keep hb.block).cs)
  rw [hn] at HCS
  have HFI : Hid (∀ (W : World), Below w.heap.size w W → Calls Tryz.prog 33 #[.agg #[.string f.name, .int .i64 f.params, .int .i64 f.slots, .slice fv.ta f.taken.length fv.tc, .int .i64 f.around, .slice fv.ca n fv.cc]] W fun e w' => e = .returned (.int .i64 (fitsR R)) ∧ Below W.heap.size W w') := Lib.hid fun W hb => by
    have := fits_any (f := f) (v := fv) ((hA.keep hb.block).own.2.1.more hb.size) hp.ne ho.code (fun k x h => (hp.pl k x h).2.2) hp.cnt
    rw [HR.out] at this
    simpa only [fnV, hn] using this
  have hm := mapNew
  clear hv ho hp hG hA hn hr hrb
  have HB0 : Hid (Below w.heap.size w (w.alloc (.cells #[.slice (some ⟨g, off, none⟩) 1 fc, .slice ga 0 gc] 25 (0, 0)))) := Lib.hid ((Below.refl _ _).alloc (Nat.le_refl _) _)
  have HP0 := Lib.hid (heap_alloc_new w (.cells #[.slice (some ⟨g, off, none⟩) 1 fc, .slice ga 0 gc] 25 (0, 0)))
  go_enter Tryz.func13, Tryz.ntmps13
  go_wp2_with (first
    | (go_at_call 28; refine (many_one HO.out (HLV.out _ HB0.out)).mono ?_; rintro e w1 ⟨rfl, hb1⟩; have hB1 := HB0.out.trans (hb1.mono HB0.out.size); have hP1 := (hb1.block _ (Array.getElem?_eq_some_iff.1 HP0.out).1).trans HP0.out; have p1 := cell_of_row w1 _ 1 _ _ _ hP1; simp only [List.getElem?_toArray, List.getElem?_cons_zero, List.getElem?_cons_succ] at p1; have HB1 := Lib.hid hB1; have HP1 := Lib.hid hP1; clear hB1 hP1 hb1)
    | (go_at_call 29; refine (globals_none _ _ _).mono ?_; rintro e w2 ⟨rfl, hb2⟩; have hB2 := HB1.out.trans (hb2.mono HB1.out.size); have hP2 := (hb2.block _ (Array.getElem?_eq_some_iff.1 HP1.out).1).trans HP1.out; have hP3 := (heap_alloc_old w2 (.map #[] 0) (Array.getElem?_eq_some_iff.1 hP2).1).trans hP2; have q0 := cell_of_row _ _ 0 _ _ _ hP3; simp only [List.getElem?_toArray, List.getElem?_cons_zero] at q0; have HB2 := Lib.hid hB2; have HP2 := Lib.hid hP2; clear hB2 hP2 hb2))
  have HB3 : Hid (Below w.heap.size w (w2.alloc (.map #[] 0))) := Lib.hid (HB2.out.alloc HB2.out.size _)
  have HP3 : Hid ((w2.alloc (.map #[] 0)).heap[w.heap.size]? = some (.cells #[.slice (some ⟨g, off, none⟩) 1 fc, .slice ga 0 gc] 25 (0, 0))) := Lib.hid ((heap_alloc_old _ _ (Array.getElem?_eq_some_iff.1 HP2.out).1).trans HP2.out)
  go_loopw [28] (fun i wr => Hid (Below w.heap.size w wr) ∧ Hid (wr.heap[w.heap.size]? = some (.cells #[.slice (some ⟨g, off, none⟩) 1 fc, .slice ga 0 gc] 25 (0, 0))) ∧ (i = .int .i64 0 ∨ i = .int .i64 1)) (fun i _ => 1 - (intOf i).toNat)
  case atStart => exact ⟨HB3, HP3, .inl rfl⟩
  case round =>
    obtain ⟨HB, HP, h⟩ := hrel
    have q0 := cell_of_row wr _ 0 _ _ _ HP.out
    have q1 := cell_of_row wr _ 1 _ _ _ HP.out
    simp only [List.getElem?_toArray, List.getElem?_cons_zero, List.getElem?_cons_succ] at q0 q1
    rcases h with rfl | rfl
    · go_wp2_with (go_at_call 31; refine (headed_one HO.out (HLV.out _ HB.out) _).mono ?_; rintro e w4 ⟨rfl, hb4⟩; rw [HK.out.head]; have HB4 := Lib.hid (HB.out.trans (hb4.mono HB.out.size)); have HP4 := Lib.hid ((hb4.block _ (Array.getElem?_eq_some_iff.1 HP.out).1).trans HP.out); clear hb4)
      go_roundw
      case rel => exact ⟨HB4, HP4, .inr rfl⟩
      case measure => simp [intOf]
    · go_wp2_with fail
      clear q0 q1
      go_loopw [43] (fun i wr => Hid (Below w.heap.size w wr) ∧ Hid (wr.heap[w.heap.size]? = some (.cells #[.slice (some ⟨g, off, none⟩) 1 fc, .slice ga 0 gc] 25 (0, 0))) ∧ (i = .int .i64 0 ∨ i = .int .i64 1)) (fun i _ => 1 - (intOf i).toNat)
      case atStart => exact ⟨HB, HP, .inl rfl⟩
      case round =>
        clear HB HP
        obtain ⟨HB, HP, h⟩ := hrel
        have q0 := cell_of_row wr _ 0 _ _ _ HP.out
        have q1 := cell_of_row wr _ 1 _ _ _ HP.out
        simp only [List.getElem?_toArray, List.getElem?_cons_zero, List.getElem?_cons_succ] at q0 q1
        rcases h with rfl | rfl
        · obtain ⟨x0, x1, x2, x3, x4, x5⟩ := HCS.out _ HB.out
          have dn : ((n : Int) == 0) = false := by simp; omega
          go_wp2_with fail
          have HB5 : Hid (Below w.heap.size w (wr.alloc (.cells #[.string f.name, .int .i64 f.params, .int .i64 f.slots, .slice fv.ta f.taken.length fv.tc, .int .i64 f.around, .slice fv.ca n fv.cc] 43 (0, 0)))) := Lib.hid (HB.out.alloc HB.out.size _)
          have HP5 : Hid ((wr.alloc (.cells #[.string f.name, .int .i64 f.params, .int .i64 f.slots, .slice fv.ta f.taken.length fv.tc, .int .i64 f.around, .slice fv.ca n fv.cc] 43 (0, 0))).heap[w.heap.size]? = some (.cells #[.slice (some ⟨g, off, none⟩) 1 fc, .slice ga 0 gc] 25 (0, 0))) := Lib.hid ((heap_alloc_old _ _ (Array.getElem?_eq_some_iff.1 HP.out).1).trans HP.out)
          go_loopw [58] (fun i wr => Hid (Below w.heap.size w wr) ∧ Hid (wr.heap[w.heap.size]? = some (.cells #[.slice (some ⟨g, off, none⟩) 1 fc, .slice ga 0 gc] 25 (0, 0))) ∧ ∃ k : Nat, i = .int .i64 k ∧ k ≤ n) (fun i _ => n - (intOf i).toNat)
          case atStart => exact ⟨HB5, HP5, 0, rfl, Nat.zero_le _⟩
          case round =>
            clear HB HP HB5 HP5 q0 q1 x0 x1 x2 x3 x4 x5 dn
            obtain ⟨HB, HP, k, rfl, hk⟩ := hrel
            have q0 := cell_of_row wr _ 0 _ _ _ HP.out
            have q1 := cell_of_row wr _ 1 _ _ _ HP.out
            simp only [List.getElem?_toArray, List.getElem?_cons_zero, List.getElem?_cons_succ] at q0 q1
            by_cases hlt : k < n
            · obtain ⟨x, hx⟩ : ∃ x, f.code[k]? = some x := ⟨_, List.getElem?_eq_getElem (by rw [HN.out]; exact hlt)⟩
              have hpx := HK.out.pl k x hx
              have HX := Lib.hid hx
              have HPX := Lib.hid hpx
              clear hx hpx
              go_wp2_with (go_at_call 32; refine (fine_plain (HGc.out.up HB.out) (HLV.out _ HB.out) (show p.funcs[0]? = some f by rw [HO.out.fs]; rfl) HX.out HO.out.code HPX.out.1).mono ?_; rintro e w4 ⟨rfl, hb4⟩; rw [show (decide (k + 1 < f.code.length) || (x.op == 50 || x.op == 34)) = true by rcases HPX.out.2.1 with h | h | h <;> simp [h]]; have HB4 := Lib.hid (HB.out.trans (hb4.mono HB.out.size)); have HP4 := Lib.hid ((hb4.block _ (Array.getElem?_eq_some_iff.1 HP.out).1).trans HP.out); clear hb4)
              go_roundw
              case rel => exact ⟨HB4, HP4, k + 1, by simp, by omega⟩
              case measure => simp [intOf]; omega
            · obtain rfl : k = n := by omega
              go_wp2_with fail
              go_roundw
              case rel => exact ⟨HB, HP, .inr rfl⟩
              case measure => simp [intOf]
        · go_wp2_with fail
          clear q0 q1
          go_loopw [75] (fun i wr => Hid (Below w.heap.size w wr) ∧ (i = .int .i64 0 ∨ (i = .int .i64 1 ∧ R = none))) (fun i _ => 1 - (intOf i).toNat)
          case atStart => exact ⟨HB, .inl rfl⟩
          case round =>
            clear HB HP
            obtain ⟨HB, h⟩ := hrel
            rcases h with rfl | ⟨rfl, rfl⟩
            · obtain ⟨x0, x1, x2, x3, x4, x5⟩ := HCS.out _ HB.out
              cases R with
              | none =>
                have d : decide ((0 : Int) ≤ -1) = false := rfl
                go_wp2_with (go_at_call 33; refine (HFI.out _ (HB.out.alloc HB.out.size _)).mono ?_; rintro e w4 ⟨rfl, hb4⟩; have hw4 : Below w.heap.size w w4 := (HB.out.alloc HB.out.size _).trans (hb4.mono (by rw [World.size_alloc]; exact Nat.le_succ_of_le HB.out.size)); have HB4 := Lib.hid hw4; clear hw4 hb4; simp only [fitsR])
                go_roundw
                case rel => exact ⟨HB4, .inr (by simp)⟩
                case measure => simp [intOf]
              | some z =>
                obtain ⟨hz0, hz1⟩ := HRB.out z rfl
                obtain ⟨j, rfl⟩ := Int.eq_ofNat_of_zero_le hz0
                have d : decide ((0 : Int) ≤ (j : Int)) = true := by simp
                clear HR
                go_wp2_with (first
                  | (go_at_call 33; refine (HFI.out _ (HB.out.alloc HB.out.size _)).mono ?_; rintro e w4 ⟨rfl, hb4⟩; have hw4 : Below w.heap.size w w4 := (HB.out.alloc HB.out.size _).trans (hb4.mono (by rw [World.size_alloc]; exact Nat.le_succ_of_le HB.out.size)); have HB4 := Lib.hid hw4; clear hw4 hb4; simp only [fitsR])
                  | (go_at_call 30; refine (wrong_some 130 0 j (by omega) _ (HGc.out.up HB4.out)).mono ?_; rintro e w5 ⟨hb5, b5, rfl, hl5, hw5⟩))
                go_ret
                exact ⟨HB4.out.trans (hb5.mono HB4.out.size), b5, rfl, Nat.le_trans HB4.out.size hl5, hw5⟩
            · go_wp2_with fail
              go_ret
              exact ⟨HB.out, rfl⟩
end Go.Proofs.YtdjbkppdppdcgaaGreatDoor
