/- errors.As at a *api.Wrong. The text on errors.As is the worked example's, turned to these types. -/
import Derived.WalkKit
import Derived.LaidEql
import Derived.Stop.Asserts
import Derived.RowKitTokens
import Derived.Test.YtagnicbknbmccaaGreatDoorMCwG
set_option maxRecDepth 100000
set_option maxHeartbeats 4000000
namespace Go.Proofs.YtagnicbknbmccaaGreatDoor
open Go.RowKit Go.Extern.Stop Go.Stop Go.Extern
theorem rl_valueOf27 (t:Addr) (w:World):(ReflectliteValue.unpack (.iface 109 (.pointer (some t)))).run Tryz.prog w
  = .ok (.agg #[.pointer (some ⟨13,109,none⟩),.pointer (some ⟨w.heap.size,0,none⟩),.int .u64 150]) (w.alloc (.cells #[.pointer (some t)] 109)):=by kernel_rfl
theorem rl_type27 (a:Addr) (w:World):(ReflectliteValue.methodAny (ReflectliteValue.valueError "reflectlite.Value.Type" 0) (fun t _ _ _=>ReflectliteType.toType t) #[.agg #[.pointer (some ⟨13,109,none⟩),.pointer (some a),.int .u64 150]]).run Tryz.prog w
  = .ok (.iface 198 (.agg #[.pointer (some ⟨13,109,none⟩)])) w:=by kernel_rfl
theorem rl_methodKind (h:Value) (w:World):(Go.method 432 198 (.agg #[h]) "Kind").run Tryz.prog w= .ok (244,h) w:=by kernel_rfl
theorem rl_kind27 (w:World):((ReflectliteType.abiMethod fun t=>(fun a:Nat=>Value.int IntKind.u8 (a:Int))<$>Rtype.kind t) #[.pointer (some ⟨13,109,none⟩)]).run Tryz.prog w= .ok (.int .u8 22) w:=by kernel_rfl
theorem rl_kind25 (w:World):((ReflectliteType.abiMethod fun t=>(fun a:Nat=>Value.int IntKind.u8 (a:Int))<$>Rtype.kind t) #[.pointer (some ⟨13,42,none⟩)]).run Tryz.prog w= .ok (.int .u8 22) w:=by kernel_rfl
theorem rlm (z:Sem Value) (f:TypeId→Addr→Nat→Nat→Sem Value) (v:Value):
  ReflectliteValue.method z f #[v]=(do match←ReflectliteValue.parts v with|none=>z|some (t,a,fl)=>f t a fl (fl % 32)):=rfl
theorem rl_parts27 (a:Addr) (w:World):(ReflectliteValue.parts (.agg #[.pointer (some ⟨13,109,none⟩),.pointer (some a),.int .u64 150])).run Tryz.prog w= .ok (some (109,a,150)) w:=by kernel_rfl
theorem rl_isNil27 (a p:Addr) (W:World) (ha:W.cell? a=some (.pointer (some p))):
  (ReflectliteValue.method (ReflectliteValue.valueError "reflectlite.Value.IsNil" 0) ReflectliteValue.isNil #[.agg #[.pointer (some ⟨13,109,none⟩),.pointer (some a),.int .u64 150]]).run Tryz.prog W= .ok (.bool false) W:=by
 rw[rlm]
 simp only[Sem.run_bind,rl_parts27,Result.andThen]
 simp[ReflectliteValue.isNil,loadVar,isAgg,underlying,Tryz.underlying109,ha,Result.andThen]
theorem rl_methodElem (h:Value) (w:World):(Go.method 432 198 (.agg #[h]) "Elem").run Tryz.prog w= .ok (265,.agg #[h]) w:=by kernel_rfl
theorem rl_methodImplements (h:Value) (w:World):(Go.method 432 198 (.agg #[h]) "Implements").run Tryz.prog w= .ok (266,.agg #[h]) w:=by kernel_rfl
theorem rl_methodAssignableTo (h:Value) (w:World):(Go.method 432 198 (.agg #[h]) "AssignableTo").run Tryz.prog w= .ok (263,.agg #[h]) w:=by kernel_rfl
theorem rl_elem27 (w:World):(ReflectliteType.method ReflectliteType.elem #[.agg #[.pointer (some ⟨13,109,none⟩)]]).run Tryz.prog w= .ok (.iface 198 (.agg #[.pointer (some ⟨13,42,none⟩)])) w:=by kernel_rfl
theorem rl_implements25 (w:World):(ReflectliteType.relation "Implements" ReflectliteType.implements_ #[.agg #[.pointer (some ⟨13,42,none⟩)],.iface 198 (.agg #[.pointer (some ⟨13,38,none⟩)])]).run Tryz.prog w= .ok (.bool true) w:=by kernel_rfl
theorem rl_typeOf25 (v:Value) (w:World):(ReflectliteType.typeOf #[.iface 42 v]).run Tryz.prog w= .ok (.iface 198 (.agg #[.pointer (some ⟨13,42,none⟩)])) w:=by kernel_rfl
theorem rl_assignable25 (w:World):(ReflectliteType.relation "AssignableTo" ReflectliteType.assignableTo #[.agg #[.pointer (some ⟨13,42,none⟩)],.iface 198 (.agg #[.pointer (some ⟨13,42,none⟩)])]).run Tryz.prog w= .ok (.bool true) w:=by kernel_rfl
theorem rl_valueOf25 (e:Addr) (w:World):(ReflectliteValue.unpack (.iface 42 (.pointer (some e)))).run Tryz.prog w
  = .ok (.agg #[.pointer (some ⟨13,42,none⟩),.pointer (some ⟨w.heap.size,0,none⟩),.int .u64 150]) (w.alloc (.cells #[.pointer (some e)] 42)):=by kernel_rfl
theorem rl_elemOf27 (w:World):(Rtype.elem? 109).run Tryz.prog w= .ok (some 42) w:=by kernel_rfl
theorem rl_mk25 (p:Addr) (w:World):(ReflectliteValue.mk 42 p ReflectliteValue.flagAddr).run Tryz.prog w= .ok (.agg #[.pointer (some ⟨13,42,none⟩),.pointer (some p),.int .u64 406]) w:=by kernel_rfl
theorem rl_elemV27 (a p:Addr) (W:World) (ha:W.cell? a=some (.pointer (some p))):
  (ReflectliteValue.method (ReflectliteValue.valueError "reflectlite.Value.Elem" 0) ReflectliteValue.elem #[.agg #[.pointer (some ⟨13,109,none⟩),.pointer (some a),.int .u64 150]]).run Tryz.prog W
   = .ok (.agg #[.pointer (some ⟨13,42,none⟩),.pointer (some p),.int .u64 406]) W:=by
 rw[rlm]
 simp only[Sem.run_bind,rl_parts27,Result.andThen]
 simp[ReflectliteValue.elem,loadVar,isAgg,underlying,Tryz.underlying109,ha,Result.andThen,rl_elemOf27,rl_mk25]
theorem rls (v x:Value):ReflectliteValue.set #[v,x]=(do
  let (some (dst,a,fl),some (src,b,_)):=(←ReflectliteValue.parts v,←ReflectliteValue.parts x)
   |unsupported (.noEntry "extern/(internal/reflectlite.Value).Set.zeroValue")
  if fl/ReflectliteValue.flagAddr % 2==0 then unsupported (.noEntry "extern/(internal/reflectlite.Value).Set.unaddressable")
  let val←loadVar src b
  if←Rtype.directlyAssignable dst src then storeVar dst a val
  else if←Rtype.implements dst src then
   if(←Rtype.kind src)==20 then
    match val with
    | .nilIface=>unsupported (.noEntry "extern/reflectlite: a nil value of one interface type handed on as a value of another")
    |_=>storeVar dst a val
   else storeVar dst a (.iface src val)
  else panicString ("reflectlite.Set: value of type "++(←Rtype.spelt src)++ " is not assignable to type "++(←Rtype.spelt dst))
  pure (.tuple #[])):=rfl
theorem rl_parts25a (a:Addr) (w:World):(ReflectliteValue.parts (.agg #[.pointer (some ⟨13,42,none⟩),.pointer (some a),.int .u64 406])).run Tryz.prog w= .ok (some (42,a,406)) w:=by kernel_rfl
theorem rl_parts25 (a:Addr) (w:World):(ReflectliteValue.parts (.agg #[.pointer (some ⟨13,42,none⟩),.pointer (some a),.int .u64 150])).run Tryz.prog w= .ok (some (42,a,150)) w:=by kernel_rfl
theorem rl_direct25 (w:World):(Rtype.directlyAssignable 42 42).run Tryz.prog w= .ok true w:=by kernel_rfl
theorem rl_set25 (ta b e:Addr) (old:Value) (W:World) (hb:W.cell? b=some (.pointer (some e))) (ht:W.cell? ta=some old) (hf:W.frozen? ta=false):
  (ReflectliteValue.set #[.agg #[.pointer (some ⟨13,42,none⟩),.pointer (some ta),.int .u64 406],.agg #[.pointer (some ⟨13,42,none⟩),.pointer (some b),.int .u64 150]]).run Tryz.prog W
   = .ok (.tuple #[]) (W.setCell ta (.pointer (some e))):=by
 rw[rls]
 simp only[Sem.run_bind,rl_parts25a,rl_parts25,Result.andThen]
 simp[ReflectliteValue.flagAddr,loadVar,isAgg,underlying,Tryz.underlying42,hb,Result.andThen,rl_direct25,storeVar,Value.cells,storeCells,Addr.add]
 rw[run_store Tryz.prog W ta _ _ (by rfl)]
 simp[ht,hf]
theorem as_hit (e t:Addr) (old:Value) (w:World) (hg:w.cell? ⟨0,0,none⟩=some (.iface 198 (.agg #[.pointer (some ⟨13,38,none⟩)]))) (ht0:w.cell? t=some old) (hf0:w.frozen? t=false):
  Calls Tryz.prog 67 #[.iface 42 (.pointer (some e)),.iface 109 (.pointer (some t))] w fun ev w'=>ev= .returned (.bool true)∧w'=((((w.alloc (.cells #[.pointer (some t)] 109)).alloc (.cells #[.pointer (some ⟨13,109,none⟩),.pointer (some ⟨w.heap.size,0,none⟩),.int .u64 150] 155)).alloc (.cells #[.pointer (some ⟨13,109,none⟩),.pointer (some ⟨w.heap.size,0,none⟩),.int .u64 150] 155)).alloc (.cells #[.pointer (some e)] 42)).setCell t (.pointer (some e)):=by
 have h6:= @run_callFunc_extern Tryz.prog 112 _ (fun args=>ReflectliteValue.unpack (args.getD 0 (.tuple #[]))) Tryz.func112 (by kernel_rfl) (by kernel_rfl) (by kernel_rfl) (by kernel_rfl)
 have h7:= @run_callFunc_extern Tryz.prog 113 _ (ReflectliteValue.methodAny (ReflectliteValue.valueError "reflectlite.Value.Type" 0) (fun t _ _ _=>ReflectliteType.toType t)) Tryz.func113 (by kernel_rfl) (by kernel_rfl) (by kernel_rfl) (by kernel_rfl)
 have h8:= @run_callFunc_extern Tryz.prog 114 _ (ReflectliteValue.method (ReflectliteValue.valueError "reflectlite.Value.IsNil" 0) ReflectliteValue.isNil) Tryz.func114 (by kernel_rfl) (by kernel_rfl) (by kernel_rfl) (by kernel_rfl)
 have h27:= @run_callFunc_extern Tryz.prog 244 _ (ReflectliteType.abiMethod fun t=>do pure (.int .u8 (←Rtype.kind t))) Tryz.func244 (by kernel_rfl) (by kernel_rfl) (by kernel_rfl) (by kernel_rfl)
 have h37:= @run_callFunc_extern Tryz.prog 265 _ (ReflectliteType.method ReflectliteType.elem) Tryz.func265 (by kernel_rfl) (by kernel_rfl) (by kernel_rfl) (by kernel_rfl)
 have h38:= @run_callFunc_extern Tryz.prog 266 _ (ReflectliteType.relation "Implements" ReflectliteType.implements_) Tryz.func266 (by kernel_rfl) (by kernel_rfl) (by kernel_rfl) (by kernel_rfl)
 have h10:= @run_callFunc_extern Tryz.prog 153 _ ReflectliteType.typeOf Tryz.func153 (by kernel_rfl) (by kernel_rfl) (by kernel_rfl) (by kernel_rfl)
 have h35:= @run_callFunc_extern Tryz.prog 263 _ (ReflectliteType.relation "AssignableTo" ReflectliteType.assignableTo) Tryz.func263 (by kernel_rfl) (by kernel_rfl) (by kernel_rfl) (by kernel_rfl)
 have h11:= @run_callFunc_extern Tryz.prog 154 _ (ReflectliteValue.method (ReflectliteValue.valueError "reflectlite.Value.Elem" 0) ReflectliteValue.elem) Tryz.func154 (by kernel_rfl) (by kernel_rfl) (by kernel_rfl) (by kernel_rfl)
 have h12:= @run_callFunc_extern Tryz.prog 155 _ ReflectliteValue.set Tryz.func155 (by kernel_rfl) (by kernel_rfl) (by kernel_rfl) (by kernel_rfl)
 have tO:=rl_typeOf25
 have mA:=rl_methodAssignableTo
 have a25:=rl_assignable25
 have v25:=rl_valueOf25
 have f6:=rl_valueOf27
 have f7:=rl_type27
 have mK:=rl_methodKind
 have mE:=rl_methodElem
 have mI:=rl_methodImplements
 have k27:=rl_kind27
 have k25:=rl_kind25
 have e27:=rl_elem27
 have i25:=rl_implements25
 have n8:=rl_isNil27 ⟨w.heap.size,0,none⟩ t ((w.alloc (.cells #[.pointer (some t)] 109)).alloc (.cells #[.pointer (some ⟨13,109,none⟩),.pointer (some ⟨w.heap.size,0,none⟩),.int .u64 150] 155)) (by simp)
 have hlt:0<w.heap.size:=by
  rcases Nat.eq_zero_or_pos w.heap.size with h0|h
  ·simp[World.cell?,h0] at hg
  ·exact h
 have hg2:((w.alloc (.cells #[.pointer (some t)] 109)).alloc (.cells #[.pointer (some ⟨13,109,none⟩),.pointer (some ⟨w.heap.size,0,none⟩),.int .u64 150] 155)).cell? ⟨0,0,none⟩=some (.iface 198 (.agg #[.pointer (some ⟨13,38,none⟩)])):=by
  rw[World.cell?_alloc_lt _ _ ⟨0,0,none⟩ (by simp),World.cell?_alloc_lt _ _ ⟨0,0,none⟩ hlt];exact hg
 have htl:t.block<w.heap.size:=by
  rcases Nat.lt_or_ge t.block w.heap.size with h|h
  ·exact h
  ·simp[World.cell?,Array.getElem?_eq_none h] at ht0
 have el:=rl_elemV27 ⟨w.heap.size,0,none⟩ t (((w.alloc (.cells #[.pointer (some t)] 109)).alloc (.cells #[.pointer (some ⟨13,109,none⟩),.pointer (some ⟨w.heap.size,0,none⟩),.int .u64 150] 155)).alloc (.cells #[.pointer (some ⟨13,109,none⟩),.pointer (some ⟨w.heap.size,0,none⟩),.int .u64 150] 155)) (by rw[World.cell?_alloc_lt _ _ ⟨w.heap.size,0,none⟩ (by simp;omega)];simp)
 have st:=rl_set25 t ⟨w.heap.size+1+1+1,0,none⟩ e old ((((w.alloc (.cells #[.pointer (some t)] 109)).alloc (.cells #[.pointer (some ⟨13,109,none⟩),.pointer (some ⟨w.heap.size,0,none⟩),.int .u64 150] 155)).alloc (.cells #[.pointer (some ⟨13,109,none⟩),.pointer (some ⟨w.heap.size,0,none⟩),.int .u64 150] 155)).alloc (.cells #[.pointer (some e)] 42))
  (by rw[World.cell?_alloc_at _ _ _ _ (by simp)];rfl)
  (by rw[World.cell?_alloc_lt _ _ t (by simp;omega),World.cell?_alloc_lt _ _ t (by simp;omega),World.cell?_alloc_lt _ _ t (by simp;omega),World.cell?_alloc_lt _ _ t htl];exact ht0)
  (by rw[World.frozen?_alloc_old _ _ t (by simp;omega),World.frozen?_alloc_old _ _ t (by simp;omega),World.frozen?_alloc_old _ _ t (by simp;omega),World.frozen?_alloc_old _ _ t (Nat.ne_of_lt htl)];exact hf0)
 go_enter Tryz.func67,Tryz.ntmps67
 go_wp2
 refine wp_loop_rounds 1 ?_
 rw[rounds_succ]
 go_wp2
 go_ret
 exact⟨rfl,rfl⟩
def Ge (w:World):Prop:=w.cell? ⟨0,0,none⟩=some (.iface 198 (.agg #[.pointer (some ⟨13,38,none⟩)]))
theorem Ge.up {w W:World} (h:Ge w) (hb:Below w.heap.size w W):Ge W:=(hb.cell (p:=⟨0,0,none⟩) (World.block_lt_of_cell? w _ h)).trans h
theorem as_wrong {w:World} (hg:Ge w) (e:Addr) {t:Nat} {old:Value} (ht:w.heap[t]? =some (.cells #[old] 42 (0,0))):
  Calls Tryz.prog 67 #[.iface 42 (.pointer (some e)),.iface 109 (.pointer (some ⟨t,0,none⟩))] w fun ev w'=>ev= .returned (.bool true)∧w'.cell? ⟨t,0,none⟩=some (.pointer (some e))∧Foot w.heap.size (fun k=>k=t) w w':=by
 have htl:=(Array.getElem?_eq_some_iff.1 ht).1
 refine(as_hit e ⟨t,0,none⟩ old w hg (cell_of_row w t 0 _ _ _ ht) (frozen_of_row w t 0 _ _ ht)).mono ?_
 rintro ev w' ⟨rfl,rfl⟩
 have hb:Below w.heap.size w ((((w.alloc (.cells #[.pointer (some ⟨t,0,none⟩)] 109)).alloc (.cells #[.pointer (some ⟨13,109,none⟩),.pointer (some ⟨w.heap.size,0,none⟩),.int .u64 150] 155)).alloc (.cells #[.pointer (some ⟨13,109,none⟩),.pointer (some ⟨w.heap.size,0,none⟩),.int .u64 150] 155)).alloc (.cells #[.pointer (some e)] 42)):=
  ((((Below.refl _ _).alloc (Nat.le_refl _) _).alloc (by simp) _).alloc (by simp;omega) _).alloc (by simp;omega) _
 have h2:=(hb.block t htl).trans ht
 refine⟨rfl, ?_,⟨hb.os,hb.tape,hb.output,by simpa using hb.size,fun k hk hn=>(Below.heap_setCell _ _ _ _ hn).trans (hb.block k hk)⟩⟩
 exact(cell_of_row _ t 0 _ _ _ (heap_setCell_same _ t 0 _ _ _ h2)).trans rfl
end Go.Proofs.YtagnicbknbmccaaGreatDoor
