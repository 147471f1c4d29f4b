/- tree.Right at every tree. -/
import Derived.Test.YtjpmghgmmeemkaaGreatDoorLook2
namespace Go.Proofs.YtjpmghgmmeemkaaGreatDoor
open Go.RowKit

/-- What Right hands back. -/
def RightPost (w : World) (r : Option Wr) (e : Ending) (w' : World) : Prop :=
  Below w.heap.size w w' ∧
  ((r = none ∧ e = .returned .nilIface) ∨ ∃ x b, r = some x ∧ e = .returned (.iface 55 (.pointer (some ⟨b, 0, none⟩))) ∧ w.heap.size ≤ b ∧ b < w'.heap.size ∧ WrongAt w' b x.code x.at_ x.name)

set_option maxRecDepth 100000 in
set_option maxHeartbeats 1000000 in
theorem Right_any (iB fB : ByteArray → Bool) (t : Nd) (he : t.Each (NumsAt iB fB)) (v : Value) (w : World) (h : Gl w) (hl : Lies w w.heap.size t v) :
    Calls Tryz.prog 14 #[v] w (RightPost w (t.look iB fB 1 0 0).2) := by
  obtain ⟨k, s, n, a, ks⟩ := t
  have hl2 := hl
  unfold Lies at hl2
  obtain ⟨A, cap, rfl, _⟩ := hl2
  obtain ⟨r, HR⟩ : ∃ r, Hid (Nd.look iB fB (.mk k s n a ks) 1 0 0 = r) := ⟨_, rfl⟩
  rw [HR.out]
  have hb2 : Below w.heap.size w ((w.alloc (.cells #[.int .i64 k, .string s, .int .i64 n, .int .i64 a, .slice A ks.length cap] 24)).alloc (.cells #[.int .i64 0] 61)) := ((Below.refl _ _).alloc (Nat.le_refl _) _).alloc (by simp) _
  have hbx := Boxed.new (w.alloc (.cells #[.int .i64 k, .string s, .int .i64 n, .int .i64 a, .slice A ks.length cap] 24)) 61 (.int .i64 0)
  rw [World.size_alloc] at hbx
  have hc := look_any iB fB _ he _ 1 0 0 (w.heap.size + 1) _ (h.up hb2) (by have := h.2.2; omega) ((hl.below hb2).more (by omega)) hbx (by omega) (by omega) (by omega) (by omega) ⟨by omega, by omega⟩
  rw [HR.out] at hc
  have HC := Lib.hid hc
  have HB2 := Lib.hid hb2
  clear hc hb2 hbx h hl he
  go_enter Tryz.func14, Tryz.ntmps14
  go_wp2_with (go_at_call 30; refine HC.out.mono ?_; rintro e w3 ⟨hfoot, hwk, hres⟩; have HFT := Lib.hid hfoot; clear hfoot hwk; rcases hres with ⟨hok, rfl⟩ | ⟨x, pb, herr, rfl⟩)
  all_goals go_wp2
  all_goals go_ret
  all_goals have hbb : Below w.heap.size w w3 := HB2.out.trans ((HFT.out.to (C := w.heap.size) (by simp; omega) (fun i e => by omega)))
  · exact ⟨hbb, .inl ⟨hok.eq, rfl⟩⟩
  · exact ⟨hbb, .inr ⟨x, pb, herr.eq, rfl, by have := herr.lo; simp at this; omega, herr.hi, herr.wr⟩⟩

end Go.Proofs.YtjpmghgmmeemkaaGreatDoor
