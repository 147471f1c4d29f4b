/- errors.Is at a *api.Wrong and its code; told. -/
import Derived.Test.YtjpmghgmmeemkaaGreatDoorAs
namespace Go.Proofs.YtjpmghgmmeemkaaGreatDoor
open Go.RowKit Go.Extern.Stop Go.Stop Go.Extern

theorem rl_typeOf29 (v : Value) (w : World) : (ReflectliteType.typeOf #[.iface 29 v]).run Tryz.prog w = .ok (.iface 110 (.agg #[.pointer (some ⟨9, 29, none⟩)])) w := by kernel_rfl
theorem rl_methodComparable (h : Value) (w : World) : (Go.method 332 110 (.agg #[h]) "Comparable").run Tryz.prog w = .ok (165, .agg #[h]) w := by kernel_rfl

theorem rl_comparable29 (w : World) : ((ReflectliteType.method fun t => do Rtype.noPackHeld "Comparable" t; (fun a => Value.bool a.comparable) <$> typeInfo t) #[.agg #[.pointer (some ⟨9, 29, none⟩)]]).run Tryz.prog w = .ok (.bool true) w := by kernel_rfl
theorem is_noIs (v : Value) (xT : TypeId) (w : World) : (Instr.typeAssert (.iface 55 v) xT 122 true).run Tryz.prog w = .ok (.tuple #[.nilIface, .bool false]) w := run_typeAssert_lacksB Tryz.underlying122 (by kernel_rfl) (by kernel_rfl) v xT w
theorem is_hasUnwrap (v : Value) (xT : TypeId) (w : World) : (Instr.typeAssert (.iface 55 v) xT 117 true).run Tryz.prog w = .ok (.tuple #[.iface 55 v, .bool true]) w := run_typeAssert_hasB Tryz.underlying117 (by kernel_rfl) v xT w
theorem is_methodUnwrap (v : Value) (w : World) : (Go.method 332 55 v "Unwrap").run Tryz.prog w = .ok (158, v) w := by kernel_rfl

theorem eq_diff (e : Addr) (c : Int) (w : World) : (binOp .eql 35 (.iface 55 (.pointer (some e))) (.iface 29 (.int .i64 c))).run Tryz.prog w = .ok (.bool false) w := by kernel_rfl
theorem eq_same (c : Int) (w : World) : (binOp .eql 35 (.iface 29 (.int .i64 c)) (.iface 29 (.int .i64 c))).run Tryz.prog w = .ok (.bool true) w := by
  have h : ∀ d : Nat, (Op.equalIn (d + 2) 35 (.iface 29 (.int .i64 c)) (.iface 29 (.int .i64 c))).run Tryz.prog w = .ok true w := fun d => by
    have hi : (Tryz.prog.info? 29).map (·.comparable) = some true := by kernel_rfl
    obtain ⟨j, hj, hjc⟩ := Option.map_eq_some_iff.1 hi
    simp [Op.equalIn, run_underlying Tryz.underlying35, run_underlying Tryz.underlying29, typeInfo, hj, hjc]
  simp only [binOp]
  simp [Op.equal, Op.maxDepth, h 9998]

set_option maxRecDepth 100000 in
set_option maxHeartbeats 4000000 in
theorem is_hit (e : Nat) (c : Int) (w : World) (hc : w.cell? ⟨e, 0, none⟩ = some (.int .i64 c)) :
    Calls Tryz.prog 29 #[.iface 55 (.pointer (some ⟨e, 0, none⟩)), .iface 29 (.int .i64 c)] w fun ev w' => ev = .returned (.bool true) ∧ w' = w := by
  have h10 := @run_callFunc_extern Tryz.prog 40 _ ReflectliteType.typeOf Tryz.func40 (by kernel_rfl) (by kernel_rfl) (by kernel_rfl) (by kernel_rfl)
  have tO := rl_typeOf29
  have mC := rl_methodComparable
  have cC := rl_comparable29
  have h165 := @run_callFunc_extern Tryz.prog 165 _ (ReflectliteType.method fun t => do Rtype.noPackHeld "Comparable" t; pure (.bool (← typeInfo t).comparable)) Tryz.func165 (by kernel_rfl) (by kernel_rfl) (by kernel_rfl) (by kernel_rfl)
  have nI := is_noIs
  have hU := is_hasUnwrap
  have mU := is_methodUnwrap
  have qD := eq_diff
  have qS := eq_same
  go_enter Tryz.func29, Tryz.ntmps29
  go_wp2
  refine wp_loop_rounds 2 ?_
  rw [rounds_succ]
  go_wp2
  rw [rounds_succ]
  go_wp2
  go_ret
  exact ⟨rfl, rfl⟩
end Go.Proofs.YtjpmghgmmeemkaaGreatDoor
