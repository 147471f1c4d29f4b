/- stops. -/
import Derived.Test.YtokhfhibdeneeaaGreatDoorMLiesP
namespace Go.Proofs.YtokhfhibdeneeaaGreatDoor
open Go.RowKit
section
variable {E : Env} {M : Rm} {w0 : World} {s : Rs}

set_option maxRecDepth 100000 in
set_option maxHeartbeats 2000000 in
theorem stops_rd0 (_hE : EnvOk E M) (h : RdAt E M s w0) (h0 : ((E.n : Int) ≤ (s.i : Int)) = True) : Calls Tryz.prog 84 #[.pointer (some ⟨M.bp, 0, none⟩)] w0 fun e W' => e = .returned (.bool true) ∧ Below w0.heap.size w0 W' := by
 have K : ∀ W W', (fun W => RdAt E M s W ∧ Below w0.heap.size w0 W ∧ W.cell? ⟨M.bp, 0, none⟩ = some (.slice M.A E.n M.cap) ∧ W.cell? ⟨M.bp, 1, none⟩ = some (.int .i64 s.i)) W → Below W.heap.size W W' → (fun W => RdAt E M s W ∧ Below w0.heap.size w0 W ∧ W.cell? ⟨M.bp, 0, none⟩ = some (.slice M.A E.n M.cap) ∧ W.cell? ⟨M.bp, 1, none⟩ = some (.int .i64 s.i)) W' := fun W W' hS hb => ⟨hS.1.below hb, hS.2.1.trans (hb.mono hS.2.1.size), (hS.1.below hb).c0, (hS.1.below hb).c1⟩
 have hs0 : (fun W => RdAt E M s W ∧ Below w0.heap.size w0 W ∧ W.cell? ⟨M.bp, 0, none⟩ = some (.slice M.A E.n M.cap) ∧ W.cell? ⟨M.bp, 1, none⟩ = some (.int .i64 s.i)) w0.drew := ⟨h.drew, (Below.refl _ _).drew, h.drew.c0, h.drew.c1⟩
 clear h
 go_enter Tryz.func84, Tryz.ntmps84
 go_wp2_with fail
 refine wp_region_G [] (fun W => RdAt E M s W ∧ Below w0.heap.size w0 W ∧ W.cell? ⟨M.bp, 0, none⟩ = some (.slice M.A E.n M.cap) ∧ W.cell? ⟨M.bp, 1, none⟩ = some (.int .i64 s.i)) (by rfl) ?_ (fun hHeld => ?_)
 · exact hs0
 refine tk 0 (h := tk 1 (h := ?_))
 try simp only [nm]
 refine tk 2 (h := tk 3 (h := ?_))
 try simp only [nm]
 refine tk 4 (h := tk 5 (h := ?_))
 try simp only [nm]
 refine tk 6 (h := tk 7 (h := ?_))
 try simp only [nm]
 refine tk 8 (h := tk 9 (h := ?_))
 try simp only [nm]
 refine tk 10 (h := ?_)
 try simp only [nm]
 refine wpAnyG_take (i := 11) (v := undef) rfl (by kernel_rfl) (by kernel_rfl) (by kernel_rfl) (by kernel_rfl) (by kernel_rfl) (fun _ _ _ h => h) (Or.inr ⟨by rfl, rfl⟩) (by assumption) ?_
 try simp only [nm]
 refine wpAnyG_take (i := 12) (v := undef) rfl (by kernel_rfl) (by kernel_rfl) (by kernel_rfl) (by kernel_rfl) (by kernel_rfl) (fun _ _ _ h => h) (Or.inr ⟨by rfl, rfl⟩) (by assumption) ?_
 try simp only [nm]
 refine tk 13 (h := tk 14 (h := ?_))
 try simp only [nm]
 refine wpAnyG_take (i := 15) (v := undef) rfl (by kernel_rfl) (by kernel_rfl) (by kernel_rfl) (by kernel_rfl) (by kernel_rfl) (fun _ _ _ h => h) (Or.inr ⟨by rfl, rfl⟩) (by assumption) ?_
 try simp only [nm]
 refine wpAnyG_take (i := 16) (v := undef) rfl (by kernel_rfl) (by kernel_rfl) (by kernel_rfl) (by kernel_rfl) (by kernel_rfl) (fun _ _ _ h => h) (Or.inr ⟨by rfl, rfl⟩) (by assumption) ?_
 try simp only [nm]
 refine tk 17 (h := tk 18 (h := ?_))
 try simp only [nm]
 refine wpAnyG_take (i := 19) (v := undef) rfl (by kernel_rfl) (by kernel_rfl) (by kernel_rfl) (by kernel_rfl) (by kernel_rfl) (fun _ _ _ h => h) (Or.inr ⟨by rfl, rfl⟩) (by assumption) ?_
 try simp only [nm]
 refine wpAnyG_take (i := 20) (v := undef) rfl (by kernel_rfl) (by kernel_rfl) (by kernel_rfl) (by kernel_rfl) (by kernel_rfl) (fun _ _ _ h => h) (Or.inr ⟨by rfl, rfl⟩) (by assumption) ?_
 try simp only [nm]
 refine tk 21 (h := tk 22 (h := ?_))
 try simp only [nm]
 refine wpAnyG_done (by kernel_rfl) ?_ _
 go_wp2_with fail
 go_ret
 exact ⟨rfl, hHeld.2.1⟩

set_option maxRecDepth 100000 in
set_option maxHeartbeats 2000000 in
theorem stops_rd1 (hE : EnvOk E M) (h : RdAt E M s w0) (h0 : ((E.n : Int) ≤ (s.i : Int)) = False) (h1 : isT E s [125] = true) : Calls Tryz.prog 84 #[.pointer (some ⟨M.bp, 0, none⟩)] w0 fun e W' => e = .returned (.bool true) ∧ Below w0.heap.size w0 W' := by
 have K : ∀ W W', (fun W => RdAt E M s W ∧ Below w0.heap.size w0 W ∧ W.cell? ⟨M.bp, 0, none⟩ = some (.slice M.A E.n M.cap) ∧ W.cell? ⟨M.bp, 1, none⟩ = some (.int .i64 s.i)) W → Below W.heap.size W W' → (fun W => RdAt E M s W ∧ Below w0.heap.size w0 W ∧ W.cell? ⟨M.bp, 0, none⟩ = some (.slice M.A E.n M.cap) ∧ W.cell? ⟨M.bp, 1, none⟩ = some (.int .i64 s.i)) W' := fun W W' hS hb => ⟨hS.1.below hb, hS.2.1.trans (hb.mono hS.2.1.size), (hS.1.below hb).c0, (hS.1.below hb).c1⟩
 have hs0 : (fun W => RdAt E M s W ∧ Below w0.heap.size w0 W ∧ W.cell? ⟨M.bp, 0, none⟩ = some (.slice M.A E.n M.cap) ∧ W.cell? ⟨M.bp, 1, none⟩ = some (.int .i64 s.i)) w0.drew := ⟨h.drew, (Below.refl _ _).drew, h.drew.c0, h.drew.c1⟩
 clear h
 go_enter Tryz.func84, Tryz.ntmps84
 go_wp2_with fail
 refine wp_region_G [] (fun W => RdAt E M s W ∧ Below w0.heap.size w0 W ∧ W.cell? ⟨M.bp, 0, none⟩ = some (.slice M.A E.n M.cap) ∧ W.cell? ⟨M.bp, 1, none⟩ = some (.int .i64 s.i)) (by rfl) ?_ (fun hHeld => ?_)
 · exact hs0
 refine tk 0 (h := tk 1 (h := ?_))
 try simp only [nm]
 refine tk 2 (h := tk 3 (h := ?_))
 try simp only [nm]
 refine tk 4 (h := tk 5 (h := ?_))
 try simp only [nm]
 refine tk 6 (h := tk 7 (h := ?_))
 try simp only [nm]
 refine tk 8 (h := tk 9 (h := ?_))
 try simp only [nm]
 refine tk 10 (h := tk 11 (h := ?_))
 try simp only [nm]
 refine rd1 12 fun KK hKK => ?_
 go_simp
 go_at_call 139
 refine (is_any hE hs0.1 ⟨#[125]⟩ [125] rfl).mono ?_
 rw [h1]
 rintro e w1 ⟨rfl, hb1⟩
 have hs1 := K _ _ hs0 hb1
 refine hKK.out _ _ (hs1) (fun hHeld => ?_)
 clear hKK KK
 try simp only [nm]
 refine tk 13 (h := tk 14 (h := ?_))
 try simp only [nm]
 refine wpAnyG_take (i := 15) (v := undef) rfl (by kernel_rfl) (by kernel_rfl) (by kernel_rfl) (by kernel_rfl) (by kernel_rfl) (fun _ _ _ h => h) (Or.inr ⟨by rfl, rfl⟩) (by assumption) ?_
 try simp only [nm]
 refine wpAnyG_take (i := 16) (v := undef) rfl (by kernel_rfl) (by kernel_rfl) (by kernel_rfl) (by kernel_rfl) (by kernel_rfl) (fun _ _ _ h => h) (Or.inr ⟨by rfl, rfl⟩) (by assumption) ?_
 try simp only [nm]
 refine tk 17 (h := tk 18 (h := ?_))
 try simp only [nm]
 refine wpAnyG_take (i := 19) (v := undef) rfl (by kernel_rfl) (by kernel_rfl) (by kernel_rfl) (by kernel_rfl) (by kernel_rfl) (fun _ _ _ h => h) (Or.inr ⟨by rfl, rfl⟩) (by assumption) ?_
 try simp only [nm]
 refine wpAnyG_take (i := 20) (v := undef) rfl (by kernel_rfl) (by kernel_rfl) (by kernel_rfl) (by kernel_rfl) (by kernel_rfl) (fun _ _ _ h => h) (Or.inr ⟨by rfl, rfl⟩) (by assumption) ?_
 try simp only [nm]
 refine tk 21 (h := tk 22 (h := ?_))
 try simp only [nm]
 refine wpAnyG_done (by kernel_rfl) ?_ _
 go_wp2_with fail
 go_ret
 exact ⟨rfl, hHeld.2.1⟩

set_option maxRecDepth 100000 in
set_option maxHeartbeats 2000000 in
theorem stops_rd2 (hE : EnvOk E M) (h : RdAt E M s w0) (h0 : ((E.n : Int) ≤ (s.i : Int)) = False) (h1 : isT E s [125] = false) (h2 : isT E s [99, 97, 115, 101] = true) : Calls Tryz.prog 84 #[.pointer (some ⟨M.bp, 0, none⟩)] w0 fun e W' => e = .returned (.bool true) ∧ Below w0.heap.size w0 W' := by
 have K : ∀ W W', (fun W => RdAt E M s W ∧ Below w0.heap.size w0 W ∧ W.cell? ⟨M.bp, 0, none⟩ = some (.slice M.A E.n M.cap) ∧ W.cell? ⟨M.bp, 1, none⟩ = some (.int .i64 s.i)) W → Below W.heap.size W W' → (fun W => RdAt E M s W ∧ Below w0.heap.size w0 W ∧ W.cell? ⟨M.bp, 0, none⟩ = some (.slice M.A E.n M.cap) ∧ W.cell? ⟨M.bp, 1, none⟩ = some (.int .i64 s.i)) W' := fun W W' hS hb => ⟨hS.1.below hb, hS.2.1.trans (hb.mono hS.2.1.size), (hS.1.below hb).c0, (hS.1.below hb).c1⟩
 have hs0 : (fun W => RdAt E M s W ∧ Below w0.heap.size w0 W ∧ W.cell? ⟨M.bp, 0, none⟩ = some (.slice M.A E.n M.cap) ∧ W.cell? ⟨M.bp, 1, none⟩ = some (.int .i64 s.i)) w0.drew := ⟨h.drew, (Below.refl _ _).drew, h.drew.c0, h.drew.c1⟩
 clear h
 go_enter Tryz.func84, Tryz.ntmps84
 go_wp2_with fail
 refine wp_region_G [] (fun W => RdAt E M s W ∧ Below w0.heap.size w0 W ∧ W.cell? ⟨M.bp, 0, none⟩ = some (.slice M.A E.n M.cap) ∧ W.cell? ⟨M.bp, 1, none⟩ = some (.int .i64 s.i)) (by rfl) ?_ (fun hHeld => ?_)
 · exact hs0
 refine tk 0 (h := tk 1 (h := ?_))
 try simp only [nm]
 refine tk 2 (h := tk 3 (h := ?_))
 try simp only [nm]
 refine tk 4 (h := tk 5 (h := ?_))
 try simp only [nm]
 refine tk 6 (h := tk 7 (h := ?_))
 try simp only [nm]
 refine tk 8 (h := tk 9 (h := ?_))
 try simp only [nm]
 refine tk 10 (h := tk 11 (h := ?_))
 try simp only [nm]
 refine rd1 12 fun KK hKK => ?_
 go_simp
 go_at_call 139
 refine (is_any hE hs0.1 ⟨#[125]⟩ [125] rfl).mono ?_
 rw [h1]
 rintro e w1 ⟨rfl, hb1⟩
 have hs1 := K _ _ hs0 hb1
 refine hKK.out _ _ (hs1) (fun hHeld => ?_)
 clear hKK KK
 try simp only [nm]
 refine tk 13 (h := tk 14 (h := ?_))
 try simp only [nm]
 refine tk 15 (h := ?_)
 try simp only [nm]
 refine rd1 16 fun KK hKK => ?_
 go_simp
 go_at_call 139
 refine (is_any hE hs1.1 ⟨#[99, 97, 115, 101]⟩ [99, 97, 115, 101] rfl).mono ?_
 rw [h2]
 rintro e w2 ⟨rfl, hb2⟩
 have hs2 := K _ _ hs1 hb2
 refine hKK.out _ _ (hs2) (fun hHeld => ?_)
 clear hKK KK
 try simp only [nm]
 refine tk 17 (h := tk 18 (h := ?_))
 try simp only [nm]
 refine wpAnyG_take (i := 19) (v := undef) rfl (by kernel_rfl) (by kernel_rfl) (by kernel_rfl) (by kernel_rfl) (by kernel_rfl) (fun _ _ _ h => h) (Or.inr ⟨by rfl, rfl⟩) (by assumption) ?_
 try simp only [nm]
 refine wpAnyG_take (i := 20) (v := undef) rfl (by kernel_rfl) (by kernel_rfl) (by kernel_rfl) (by kernel_rfl) (by kernel_rfl) (fun _ _ _ h => h) (Or.inr ⟨by rfl, rfl⟩) (by assumption) ?_
 try simp only [nm]
 refine tk 21 (h := tk 22 (h := ?_))
 try simp only [nm]
 refine wpAnyG_done (by kernel_rfl) ?_ _
 go_wp2_with fail
 go_ret
 exact ⟨rfl, hHeld.2.1⟩

set_option maxRecDepth 100000 in
set_option maxHeartbeats 2000000 in
theorem stops_rd3 (hE : EnvOk E M) (h : RdAt E M s w0) (b : Bool) (h0 : ((E.n : Int) ≤ (s.i : Int)) = False) (h1 : isT E s [125] = false) (h2 : isT E s [99, 97, 115, 101] = false) (h3 : isT E s [100, 101, 102, 97, 117, 108, 116] = b) : Calls Tryz.prog 84 #[.pointer (some ⟨M.bp, 0, none⟩)] w0 fun e W' => e = .returned (.bool b) ∧ Below w0.heap.size w0 W' := by
 have K : ∀ W W', (fun W => RdAt E M s W ∧ Below w0.heap.size w0 W ∧ W.cell? ⟨M.bp, 0, none⟩ = some (.slice M.A E.n M.cap) ∧ W.cell? ⟨M.bp, 1, none⟩ = some (.int .i64 s.i)) W → Below W.heap.size W W' → (fun W => RdAt E M s W ∧ Below w0.heap.size w0 W ∧ W.cell? ⟨M.bp, 0, none⟩ = some (.slice M.A E.n M.cap) ∧ W.cell? ⟨M.bp, 1, none⟩ = some (.int .i64 s.i)) W' := fun W W' hS hb => ⟨hS.1.below hb, hS.2.1.trans (hb.mono hS.2.1.size), (hS.1.below hb).c0, (hS.1.below hb).c1⟩
 have hs0 : (fun W => RdAt E M s W ∧ Below w0.heap.size w0 W ∧ W.cell? ⟨M.bp, 0, none⟩ = some (.slice M.A E.n M.cap) ∧ W.cell? ⟨M.bp, 1, none⟩ = some (.int .i64 s.i)) w0.drew := ⟨h.drew, (Below.refl _ _).drew, h.drew.c0, h.drew.c1⟩
 clear h
 go_enter Tryz.func84, Tryz.ntmps84
 go_wp2_with fail
 refine wp_region_G [] (fun W => RdAt E M s W ∧ Below w0.heap.size w0 W ∧ W.cell? ⟨M.bp, 0, none⟩ = some (.slice M.A E.n M.cap) ∧ W.cell? ⟨M.bp, 1, none⟩ = some (.int .i64 s.i)) (by rfl) ?_ (fun hHeld => ?_)
 · exact hs0
 refine tk 0 (h := tk 1 (h := ?_))
 try simp only [nm]
 refine tk 2 (h := tk 3 (h := ?_))
 try simp only [nm]
 refine tk 4 (h := tk 5 (h := ?_))
 try simp only [nm]
 refine tk 6 (h := tk 7 (h := ?_))
 try simp only [nm]
 refine tk 8 (h := tk 9 (h := ?_))
 try simp only [nm]
 refine tk 10 (h := tk 11 (h := ?_))
 try simp only [nm]
 refine rd1 12 fun KK hKK => ?_
 go_simp
 go_at_call 139
 refine (is_any hE hs0.1 ⟨#[125]⟩ [125] rfl).mono ?_
 rw [h1]
 rintro e w1 ⟨rfl, hb1⟩
 have hs1 := K _ _ hs0 hb1
 refine hKK.out _ _ (hs1) (fun hHeld => ?_)
 clear hKK KK
 try simp only [nm]
 refine tk 13 (h := tk 14 (h := ?_))
 try simp only [nm]
 refine tk 15 (h := ?_)
 try simp only [nm]
 refine rd1 16 fun KK hKK => ?_
 go_simp
 go_at_call 139
 refine (is_any hE hs1.1 ⟨#[99, 97, 115, 101]⟩ [99, 97, 115, 101] rfl).mono ?_
 rw [h2]
 rintro e w2 ⟨rfl, hb2⟩
 have hs2 := K _ _ hs1 hb2
 refine hKK.out _ _ (hs2) (fun hHeld => ?_)
 clear hKK KK
 try simp only [nm]
 refine tk 17 (h := tk 18 (h := ?_))
 try simp only [nm]
 refine tk 19 (h := ?_)
 try simp only [nm]
 refine rd1 20 fun KK hKK => ?_
 go_simp
 go_at_call 139
 refine (is_any hE hs2.1 ⟨#[100, 101, 102, 97, 117, 108, 116]⟩ [100, 101, 102, 97, 117, 108, 116] rfl).mono ?_
 rw [h3]
 rintro e w3 ⟨rfl, hb3⟩
 have hs3 := K _ _ hs2 hb3
 refine hKK.out _ _ (hs3) (fun hHeld => ?_)
 clear hKK KK
 try simp only [nm]
 refine tk 21 (h := tk 22 (h := ?_))
 try simp only [nm]
 refine wpAnyG_done (by kernel_rfl) ?_ _
 go_wp2_with fail
 go_ret
 exact ⟨rfl, hHeld.2.1⟩

/-- stops. -/
theorem stops_rd (hE : EnvOk E M) (h : RdAt E M s w0) : Calls Tryz.prog 84 #[.pointer (some ⟨M.bp, 0, none⟩)] w0 fun e W' => e = .returned (.bool (stopsB E s)) ∧ Below w0.heap.size w0 W' := by
 by_cases h0 : E.n ≤ s.i
 · have hb : stopsB E s = true := by simp [stopsB, h0]
   rw [hb]
   exact stops_rd0 hE h (by simp; omega)
 have hc : ((E.n : Int) ≤ (s.i : Int)) = False := by simp; omega
 cases h1 : isT E s [125] with
 | true =>
  have hb : stopsB E s = true := by simp [stopsB, h1]
  rw [hb]
  exact stops_rd1 hE h hc h1
 | false =>
 cases h2 : isT E s [99, 97, 115, 101] with
 | true =>
  have hb : stopsB E s = true := by simp [stopsB, h2]
  rw [hb]
  exact stops_rd2 hE h hc h1 h2
 | false =>
 have hb : stopsB E s = isT E s [100, 101, 102, 97, 117, 108, 116] := by simp [stopsB, h0, h1, h2]
 rw [hb]
 exact stops_rd3 hE h _ hc h1 h2 rfl
end
end Go.Proofs.YtokhfhibdeneeaaGreatDoor
