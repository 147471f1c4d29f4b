/- tree.wrong, fixed, row, limited, typed, statement, shaped: what each returns, at every node. -/
import Derived.Test.YtjpmghgmmeemkaaGreatDoorRight1
namespace Go.Proofs.YtjpmghgmmeemkaaGreatDoor
open Go.RowKit

/-- A *api.Wrong that lies in block b. -/
def WrongAt (w : World) (b : Nat) (code at_ : Int) (name : ByteArray) : Prop :=
  w.cell? ⟨b, 0, none⟩ = some (.int .i64 code) ∧ w.cell? ⟨b, 1, none⟩ = some (.int .i64 at_) ∧ w.cell? ⟨b, 2, none⟩ = some (.string name) ∧ w.frozen? ⟨b, 0, none⟩ = false ∧ w.frozen? ⟨b, 1, none⟩ = false ∧ w.frozen? ⟨b, 2, none⟩ = false
def shortB (s : ByteArray) : ByteArray := if (s.size : Int) ≤ 40 then s else ⟨#[]⟩

set_option maxRecDepth 100000 in
theorem wrong_any (c k : Int) (s : ByteArray) (n a : Int) (A : Option Addr) (len cap : Nat) (w : World) :
    Calls Tryz.prog 42 #[.int .i64 c, .agg #[.int .i64 k, .string s, .int .i64 n, .int .i64 a, .slice A len cap]] w fun e w' =>
      e = .returned (.pointer (some ⟨w.heap.size + 1, 0, none⟩)) ∧ WrongAt w' (w.heap.size + 1) c a (shortB s) ∧ Below w.heap.size w w' := by
  obtain ⟨r, HF⟩ : ∃ r, Hid (shortB s = r) := ⟨_, rfl⟩
  rw [HF.out]
  go_enter Tryz.func42, Tryz.ntmps42
  go_wp2
  · go_ret
    have hr : r = s := by rw [← HF.out, shortB, if_pos (by assumption)]
    subst hr
    refine ⟨rfl, ?_, ?_⟩
    · refine ⟨?_, ?_, ?_, ?_, ?_, ?_⟩ <;> go_simp
    · exact ((Below.refl _ _).alloc (Nat.le_refl _) _).alloc (by simp) _
  · go_ret
    have hr : r = ⟨#[]⟩ := by rw [← HF.out, shortB, if_neg (by omega)]
    subst hr
    refine ⟨rfl, ?_, ?_⟩
    · refine ⟨?_, ?_, ?_, ?_, ?_, ?_⟩ <;> go_simp
    · exact ((Below.refl _ _).alloc (Nat.le_refl _) _).alloc (by simp) _

theorem fixed_any (A : Option Addr) (len cap : Nat) (w : World) :
    Calls Tryz.prog 67 #[.slice A len cap] w fun e w' => e = .returned (.agg #[.slice A len cap, .int .i64 29, .int .i64 len, .int .i64 len, .int .i64 20]) ∧ w' = w.alloc (.cells #[.slice A len cap, .int .i64 29, .int .i64 len, .int .i64 len, .int .i64 20] 98) := by
  go_enter Tryz.func67, Tryz.ntmps67
  go_wp2
  exact bodyPost_ret (results_cell_row rfl _ _ w.heap.size 98 _ _ _ rfl (heap_alloc_new w _) Tryz.underlying98 rfl (by kernel_rfl)) rfl ⟨rfl, rfl⟩
theorem row_any (r : Int) (A : Option Addr) (len cap : Nat) (w : World) :
    Calls Tryz.prog 66 #[.int .i64 r, .slice A len cap] w fun e w' => e = .returned (.agg #[.slice A len cap, .int .i64 r, .int .i64 len, .int .i64 (-1), .int .i64 20]) ∧ w' = w.alloc (.cells #[.slice A len cap, .int .i64 r, .int .i64 len, .int .i64 (-1), .int .i64 20] 98) := by
  go_enter Tryz.func66, Tryz.ntmps66
  go_wp2
  exact bodyPost_ret (results_cell_row rfl _ _ w.heap.size 98 _ _ _ rfl (heap_alloc_new w _) Tryz.underlying98 rfl (by kernel_rfl)) rfl ⟨rfl, rfl⟩
theorem limited_any (r m : Int) (w : World) :
    Calls Tryz.prog 68 #[.int .i64 r, .int .i64 m] w fun e w' => e = .returned (.agg #[.slice none 0 0, .int .i64 r, .int .i64 0, .int .i64 m, .int .i64 22]) ∧ w' = w.alloc (.cells #[.slice none 0 0, .int .i64 r, .int .i64 0, .int .i64 m, .int .i64 22] 98) := by
  go_enter Tryz.func68, Tryz.ntmps68
  go_wp2
  exact bodyPost_ret (results_cell_row rfl _ _ w.heap.size 98 _ _ _ rfl (heap_alloc_new w _) Tryz.underlying98 rfl (by kernel_rfl)) rfl ⟨rfl, rfl⟩

/-! ### typed -/
def typedOne (x : Nd) : Bool := x.kind == 15 || (x.kind == 14 && amongB x.text ⟨#[109, 97, 112, 32, 102, 117, 110, 99, 32, 97, 110, 121]⟩)
def typedB (ks : List Nd) : Bool := match ks with
  | [] => false
  | x :: _ => x.kind == 38 && x.kids.any typedOne

set_option maxRecDepth 100000 in
set_option maxHeartbeats 1000000 in
theorem typed_any (k : Int) (s : ByteArray) (n a : Int) (A : Option Addr) (cap : Nat) (ks : List Nd) (w : World) (h : Gl w)
    (hl : Lies w w.heap.size (.mk k s n a ks) (.agg #[.int .i64 k, .string s, .int .i64 n, .int .i64 a, .slice A ks.length cap])) :
    Calls Tryz.prog 89 #[.agg #[.int .i64 k, .string s, .int .i64 n, .int .i64 a, .slice A ks.length cap]] w fun e w' => e = .returned (.bool (typedB ks)) ∧ Below w.heap.size w w' := by
  have H := Lib.hid h
  clear h
  have hl0 := hl
  unfold Lies at hl
  obtain ⟨A', cap', he, _, _, _, _, _, _, hkids⟩ := hl
  simp only [Value.agg.injEq, Array.mk.injEq, List.cons.injEq, Value.slice.injEq, and_true, true_and] at he
  obtain ⟨rfl, rfl⟩ := he
  rcases hkids with rfl | ⟨b, o, rfl, hlt, hkl⟩
  · go_enter Tryz.func89, Tryz.ntmps89
    go_wp2
    go_ret
    exact ⟨rfl, (Below.refl _ _).alloc (Nat.le_refl _) _⟩
  · cases ks with
    | nil =>
      go_enter Tryz.func89, Tryz.ntmps89
      go_wp2
      go_ret
      exact ⟨rfl, (Below.refl _ _).alloc (Nat.le_refl _) _⟩
    | cons x xs =>
      obtain ⟨k1, s1, n1, a1, A1, cap1, ks1, hx, c0, c1, c2, c3, c4, hl1⟩ := LiesL.get 0 (by simp) hkl
      simp at hx
      subst hx
      have HK := Lib.hid hkl
      have HL1 := Lib.hid hl1
      clear hkl hl1 hl0
      obtain ⟨r, HR⟩ : ∃ r, Hid (typedB (.mk k1 s1 n1 a1 ks1 :: xs) = r) := ⟨_, rfl⟩
      rw [HR.out]
      simp only [Nat.zero_mul, Nat.add_zero] at c0 c1 c2 c3 c4
      clear c1 c2 c3
      go_enter Tryz.func89, Tryz.ntmps89
      go_wp2
      · go_ret
        refine ⟨ret_bool ?_, (Below.refl _ _).alloc (Nat.le_refl _) _⟩
        rw [← HR.out]
        simp_all [typedB, Nd.kind]
      · have HK38 : Hid (k1 = 38) := by
          show _ = _
          simp_all
        rename (_ == _) = false ∧ _ => hz
        clear hz
        rename ¬ (_ + 1 = 0) => hz
        clear hz
        have HF : Hid (r = ks1.any typedOne) := by
          show _ = _
          rw [← HR.out, HK38.out]; rfl
        have HL2 := HL1.out
        unfold Lies at HL2
        obtain ⟨A', cap', he, _, _, _, _, _, _, hkids1⟩ := HL2
        simp only [Value.agg.injEq, Array.mk.injEq, List.cons.injEq, Value.slice.injEq, and_true, true_and] at he
        obtain ⟨rfl, rfl⟩ := he
        have HK1 := Lib.hid hkids1
        clear hkids1
        go_loopw [23] (fun i wr => ∃ (j : Nat), j ≤ ks1.length ∧ i = .int .i64 j ∧ Hid ((ks1.drop j).any typedOne = ks1.any typedOne) ∧ Below w.heap.size w wr) (fun i _ => ks1.length - (intOf i).toNat)
        case atStart => exact ⟨0, by omega, rfl, rfl, (Below.refl _ _).alloc (Nat.le_refl _) _⟩
        case round =>
          obtain ⟨j, hj, rfl, HI, hb⟩ := hrel
          by_cases hlt1 : j < ks1.length
          · rcases HK1.out with h | ⟨b1, o1, rfl, hb1, hk1⟩
            · rw [h] at hlt1; simp at hlt1
            obtain ⟨k2, s2, n2, a2, A2, cap2, ks2, hx2, d0, d1, d2, d3, d4, hl2⟩ := LiesL.get j hlt1 (hk1.below hb hb1)
            have hs2 : s2.size ≤ 140737488351232 := by unfold Lies at hl2; obtain ⟨_, _, _, _, _, _, h, _⟩ := hl2; exact h
            have HL3 := Lib.hid hl2
            have HX2 := Lib.hid hx2
            have HK2 := Lib.hid hk1
            clear hl2 hx2 hk1
            have HD : Hid ((ks1.drop j).any typedOne = (typedOne (.mk k2 s2 n2 a2 ks2) || (ks1.drop (j + 1)).any typedOne)) := by
              show _ = _
              rw [drop_cons HX2.out]; rfl
            have hT : typedOne (.mk k2 s2 n2 a2 ks2) = (k2 == 15 || (k2 == 14 && amongB s2 ⟨#[109, 97, 112, 32, 102, 117, 110, 99, 32, 97, 110, 121]⟩)) := rfl
            have HT := Lib.hid hT
            clear hT
            go_wp2_with (go_at_call 63; refine (among_any s2 _ _ (H.out.up (hb.alloc hb.size _)) hs2 ?_).mono ?_; exact (by decide : (⟨#[109, 97, 112, 32, 102, 117, 110, 99, 32, 97, 110, 121]⟩ : ByteArray).size < 1000000); rintro e w'' ⟨rfl, rfl⟩)
            all_goals first
              | (go_ret
                 refine ⟨ret_bool ?_, hb.alloc hb.size _⟩
                 rw [HF.out, ← HI.out, HD.out, HT.out]
                 simp_all; done)
              | (go_roundw
                 case rel =>
                   refine ⟨j + 1, by omega, by simp, ?_, hb.alloc hb.size _⟩
                   show _ = _
                   rw [← HI.out, HD.out, HT.out]
                   simp_all
                 case measure => simp [intOf]; omega)
          · obtain rfl : j = ks1.length := by omega
            go_wp2
            go_ret
            refine ⟨ret_bool ?_, hb⟩
            rw [HF.out, ← HI.out]
            simp

end Go.Proofs.YtjpmghgmmeemkaaGreatDoor
