/- tree.level at every node. -/
import Derived.Test.YtjpmghgmmeemkaaGreatDoorLex1
import Derived.Test.YtjpmghgmmeemkaaGreatDoorNd
namespace Go.Proofs.YtjpmghgmmeemkaaGreatDoor
open Go.RowKit

def opLevel (l : List UInt8) : Int :=
  if l = [124, 124] then 1 else if l = [38, 38] then 2
  else if l = [43] ∨ l = [45] ∨ l = [124] ∨ l = [94] then 4
  else if l = [42] ∨ l = [47] ∨ l = [37] ∨ l = [38] ∨ l = [60, 60] ∨ l = [62, 62] then 5 else 3
def levelB (k : Int) (s : ByteArray) : Int := if k = 50 ∨ k = 42 then 6 else if k = 51 then opLevel s.toList else 7

set_option maxRecDepth 100000 in
set_option maxHeartbeats 4000000 in
theorem level_any (k : Int) (s : ByteArray) (n a : Int) (A : Option Addr) (len cap : Nat) (w : World) :
    Calls Tryz.prog 84 #[.agg #[.int .i64 k, .string s, .int .i64 n, .int .i64 a, .slice A len cap]] w fun e w' => e = .returned (.int .i64 (levelB k s)) ∧ w' = w.alloc (.cells #[.int .i64 k, .string s, .int .i64 n, .int .i64 a, .slice A len cap] 24) := by
  obtain ⟨r, HF⟩ : ∃ r, Hid (levelB k s = r) := ⟨_, rfl⟩
  rw [HF.out]
  go_enter Tryz.func84, Tryz.ntmps84
  go_wp2
  all_goals go_ret
  all_goals refine ⟨ret_int ?_, rfl⟩
  all_goals rw [← HF.out]
  all_goals clear HF
  all_goals simp_all [levelB, opLevel]
end Go.Proofs.YtjpmghgmmeemkaaGreatDoor
