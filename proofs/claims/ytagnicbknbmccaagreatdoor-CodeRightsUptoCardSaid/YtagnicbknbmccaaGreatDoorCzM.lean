/- code.says of every instruction. -/
import Derived.Test.YtagnicbknbmccaaGreatDoorSqC
import Derived.Test.YtagnicbknbmccaaGreatDoorMCwO
import Derived.Test.YtagnicbknbmccaaGreatDoorMCxJ
import Derived.Test.YtagnicbknbmccaaGreatDoorMCxH
import Derived.Test.YtagnicbknbmccaaGreatDoorMCwX
set_option maxRecDepth 100000
set_option maxHeartbeats 4000000
namespace Go.Proofs.YtagnicbknbmccaaGreatDoor
open Go.RowKit
attribute [local go_sem] fieldFm2
theorem amongU (L:ByteArray) (W:List (List UInt8)) (hL:splitC 32 L.data.toList=W) (hLs:L.size≤1000) (T:ByteArray):∀(W':World) (b:Nat),Gc W'→W'.cell? ⟨b,3,none⟩=some (.string T)→
  Calls Tryz.prog 120 #[.string L,.pointer (some ⟨b,0,none⟩)] W' fun e w'=>e= .returned (.bool (amongB W T.data.toList))∧Below W'.heap.size W' w':=fun _W' _b hG hc=>among_any L W hL hLs hG (T:=T.data.toList) hc
theorem says_k12 (x:Ci) (h:(formOf x.op).text=12) (hs:x.text.size≤4000000000):SaysOk x:=by
 intro w hG
 have HF:=Lib.hid (forms_call x.op)
 have HR:Hid (saysB x=((intOfL x.text.data.toList).isSome)):=Lib.hid (by unfold saysB;simp only[h])
 obtain⟨F,hF⟩:∃F,formOf x.op=F:=⟨_,rfl⟩
 rw[hF] at HF h
 rw[h] at HF
 rw[HR.out]
 have HG:=Lib.hid hG
 obtain⟨T,hT⟩:∃T,x.text=T:=⟨_,rfl⟩
 rw[hT] at hs⊢
 simp only[insV]
 rw[hT]
 obtain⟨A,hA⟩:∃A,x.a=A:=⟨_,rfl⟩
 try rw[hA]
 have hmf:∀(fn:Fn) (first cap:Array Value) (w:World),(Instr.makeFunc fn first cap).run Tryz.prog w= .ok (.func fn first cap) w:=fun _ _ _ _=>rfl
 have hcall:∀(v u:Value) (w':World),(callFunc 120 #[v,u]).run Tryz.prog w'= .ok (.enter 120 #[v,u]) w':=fun v u w'=>enters_of Tryz.func120 (by kernel_rfl) rfl _ _
 clear hF h hT hA hG HR
 go_enter Tryz.func82,Tryz.ntmps82
 go_wp2_with (first
  |(go_at_call 44;refine(HF.out _).mono ?_;rintro e w4 ⟨rfl,hb4⟩;have hx:=(hb4.block w.heap.size (by simp)).trans (heap_alloc_new w _);have z1:=cell_of_row w4 _ 1 _ _ _ hx;have z3:=cell_of_row w4 _ 3 _ _ _ hx;simp only[gq] at z1 z3;have HB:Hid (Below w.heap.size w w4):=Lib.hid (((Below.refl w.heap.size w).alloc (Nat.le_refl _) _).trans (hb4.mono (by simp)));have HG4:=Lib.hid (HG.out.up HB.out);clear hx hb4)
  |(go_at_call 121;refine(digits_any HG4.out T (by omega)).mono ?_;rintro e w5 ⟨rfl,hb5⟩))
 go_ret
 exact⟨ret_bool rfl,HB.out.trans (hb5.mono HB.out.size)⟩
theorem says_k13 (x:Ci) (h:(formOf x.op).text=13) (hs:x.text.size≤4000000000):SaysOk x:=by
 intro w hG
 have HF:=Lib.hid (forms_call x.op)
 have HR:Hid (saysB x=(floatBitsB x.text.data.toList)):=Lib.hid (by unfold saysB;simp only[h])
 obtain⟨F,hF⟩:∃F,formOf x.op=F:=⟨_,rfl⟩
 rw[hF] at HF h
 rw[h] at HF
 rw[HR.out]
 have HG:=Lib.hid hG
 obtain⟨T,hT⟩:∃T,x.text=T:=⟨_,rfl⟩
 rw[hT] at hs⊢
 simp only[insV]
 rw[hT]
 obtain⟨A,hA⟩:∃A,x.a=A:=⟨_,rfl⟩
 try rw[hA]
 have hmf:∀(fn:Fn) (first cap:Array Value) (w:World),(Instr.makeFunc fn first cap).run Tryz.prog w= .ok (.func fn first cap) w:=fun _ _ _ _=>rfl
 have hcall:∀(v u:Value) (w':World),(callFunc 120 #[v,u]).run Tryz.prog w'= .ok (.enter 120 #[v,u]) w':=fun v u w'=>enters_of Tryz.func120 (by kernel_rfl) rfl _ _
 clear hF h hT hA hG HR
 go_enter Tryz.func82,Tryz.ntmps82
 go_wp2_with (first
  |(go_at_call 44;refine(HF.out _).mono ?_;rintro e w4 ⟨rfl,hb4⟩;have hx:=(hb4.block w.heap.size (by simp)).trans (heap_alloc_new w _);have z1:=cell_of_row w4 _ 1 _ _ _ hx;have z3:=cell_of_row w4 _ 3 _ _ _ hx;simp only[gq] at z1 z3;have HB:Hid (Below w.heap.size w w4):=Lib.hid (((Below.refl w.heap.size w).alloc (Nat.le_refl _) _).trans (hb4.mono (by simp)));have HG4:=Lib.hid (HG.out.up HB.out);clear hx hb4)
  |(go_at_call 122;refine(float_any T.data.toList hs w4 HG4.out).mono ?_;rintro e w5 ⟨rfl,hb5⟩))
 go_ret
 exact⟨ret_bool rfl,HB.out.trans (hb5.mono HB.out.size)⟩
theorem says_k14 (x:Ci) (h:(formOf x.op).text=14) (hs:x.text.size≤4000000000):SaysOk x:=by
 intro w hG
 have HF:=Lib.hid (forms_call x.op)
 have HR:Hid (saysB x=(decide (x.text.data.toList.length≤65536))):=Lib.hid (by unfold saysB;simp only[h])
 obtain⟨F,hF⟩:∃F,formOf x.op=F:=⟨_,rfl⟩
 rw[hF] at HF h
 rw[h] at HF
 rw[HR.out]
 have HG:=Lib.hid hG
 obtain⟨T,hT⟩:∃T,x.text=T:=⟨_,rfl⟩
 rw[hT] at hs⊢
 simp only[insV]
 rw[hT]
 obtain⟨A,hA⟩:∃A,x.a=A:=⟨_,rfl⟩
 try rw[hA]
 have hmf:∀(fn:Fn) (first cap:Array Value) (w:World),(Instr.makeFunc fn first cap).run Tryz.prog w= .ok (.func fn first cap) w:=fun _ _ _ _=>rfl
 have hcall:∀(v u:Value) (w':World),(callFunc 120 #[v,u]).run Tryz.prog w'= .ok (.enter 120 #[v,u]) w':=fun v u w'=>enters_of Tryz.func120 (by kernel_rfl) rfl _ _
 clear hF h hT hA hG HR
 go_enter Tryz.func82,Tryz.ntmps82
 go_wp2_with (first
  |(go_at_call 44;refine(HF.out _).mono ?_;rintro e w4 ⟨rfl,hb4⟩;have hx:=(hb4.block w.heap.size (by simp)).trans (heap_alloc_new w _);have z1:=cell_of_row w4 _ 1 _ _ _ hx;have z3:=cell_of_row w4 _ 3 _ _ _ hx;simp only[gq] at z1 z3;have HB:Hid (Below w.heap.size w w4):=Lib.hid (((Below.refl w.heap.size w).alloc (Nat.le_refl _) _).trans (hb4.mono (by simp)));have HG4:=Lib.hid (HG.out.up HB.out);clear hx hb4))
 go_ret
 refine⟨ret_bool ?_,HB.out⟩
 have e:T.data.toList.length=T.size:=rfl
 rw[e,Bool.eq_iff_iff]
 simp
 try omega
theorem says_k15 (x:Ci) (h:(formOf x.op).text=15) (hs:x.text.size≤4000000000):SaysOk x:=by
 intro w hG
 have HF:=Lib.hid (forms_call x.op)
 have HR:Hid (saysB x=(typedB x.text.data.toList (x.a==1) false)):=Lib.hid (by unfold saysB;simp only[h])
 obtain⟨F,hF⟩:∃F,formOf x.op=F:=⟨_,rfl⟩
 rw[hF] at HF h
 rw[h] at HF
 rw[HR.out]
 have HG:=Lib.hid hG
 obtain⟨T,hT⟩:∃T,x.text=T:=⟨_,rfl⟩
 rw[hT] at hs⊢
 simp only[insV]
 rw[hT]
 obtain⟨A,hA⟩:∃A,x.a=A:=⟨_,rfl⟩
 try rw[hA]
 have hmf:∀(fn:Fn) (first cap:Array Value) (w:World),(Instr.makeFunc fn first cap).run Tryz.prog w= .ok (.func fn first cap) w:=fun _ _ _ _=>rfl
 have hcall:∀(v u:Value) (w':World),(callFunc 120 #[v,u]).run Tryz.prog w'= .ok (.enter 120 #[v,u]) w':=fun v u w'=>enters_of Tryz.func120 (by kernel_rfl) rfl _ _
 clear hF h hT hA hG HR
 go_enter Tryz.func82,Tryz.ntmps82
 go_wp2_with (first
  |(go_at_call 44;refine(HF.out _).mono ?_;rintro e w4 ⟨rfl,hb4⟩;have hx:=(hb4.block w.heap.size (by simp)).trans (heap_alloc_new w _);have z1:=cell_of_row w4 _ 1 _ _ _ hx;have z3:=cell_of_row w4 _ 3 _ _ _ hx;simp only[gq] at z1 z3;have HB:Hid (Below w.heap.size w w4):=Lib.hid (((Below.refl w.heap.size w).alloc (Nat.le_refl _) _).trans (hb4.mono (by simp)));have HG4:=Lib.hid (HG.out.up HB.out);clear hx hb4)
  |(go_at_call 123;refine(typed_any T.data.toList (A==1) false w4 HG4.out hs).mono ?_;rintro e w5 ⟨rfl,hb5⟩))
 go_ret
 exact⟨ret_bool rfl,HB.out.trans (hb5.mono HB.out.size)⟩
theorem says_k16 (x:Ci) (h:(formOf x.op).text=16) (_hs:x.text.size≤4000000000):SaysOk x:=by
 intro w hG
 have HF:=Lib.hid (forms_call x.op)
 have HR:Hid (saysB x=(amongB unaryW x.text.data.toList)):=Lib.hid (by unfold saysB;simp only[h])
 obtain⟨F,hF⟩:∃F,formOf x.op=F:=⟨_,rfl⟩
 rw[hF] at HF h
 rw[h] at HF
 rw[HR.out]
 have HG:=Lib.hid hG
 obtain⟨T,hT⟩:∃T,x.text=T:=⟨_,rfl⟩
 rw[hT]
 simp only[insV]
 rw[hT]
 obtain⟨A,hA⟩:∃A,x.a=A:=⟨_,rfl⟩
 try rw[hA]
 have hmf:∀(fn:Fn) (first cap:Array Value) (w:World),(Instr.makeFunc fn first cap).run Tryz.prog w= .ok (.func fn first cap) w:=fun _ _ _ _=>rfl
 have hcall:∀(v u:Value) (w':World),(callFunc 120 #[v,u]).run Tryz.prog w'= .ok (.enter 120 #[v,u]) w':=fun v u w'=>enters_of Tryz.func120 (by kernel_rfl) rfl _ _
 clear hF h hT hA hG HR
 go_enter Tryz.func82,Tryz.ntmps82
 go_wp2_with (first
  |(go_at_call 44;refine(HF.out _).mono ?_;rintro e w4 ⟨rfl,hb4⟩;have hx:=(hb4.block w.heap.size (by simp)).trans (heap_alloc_new w _);have z1:=cell_of_row w4 _ 1 _ _ _ hx;have z3:=cell_of_row w4 _ 3 _ _ _ hx;simp only[gq] at z1 z3;have HB:Hid (Below w.heap.size w w4):=Lib.hid (((Below.refl w.heap.size w).alloc (Nat.le_refl _) _).trans (hb4.mono (by simp)));have HG4:=Lib.hid (HG.out.up HB.out);clear hx hb4)
  |(go_at_call 120;refine(amongU ⟨#[45,32,33,32,94,32,42,32,43,43,32,45,45]⟩ unaryW (by kernel_rfl) (by decide) T w4 _ HG4.out z3).mono ?_;rintro e w5 ⟨rfl,hb5⟩))
 go_ret
 exact⟨ret_bool rfl,HB.out.trans (hb5.mono HB.out.size)⟩
theorem says_k17 (x:Ci) (h:(formOf x.op).text=17) (_hs:x.text.size≤4000000000):SaysOk x:=by
 intro w hG
 have HF:=Lib.hid (forms_call x.op)
 have HR:Hid (saysB x=(amongB binaryW x.text.data.toList)):=Lib.hid (by unfold saysB;simp only[h])
 obtain⟨F,hF⟩:∃F,formOf x.op=F:=⟨_,rfl⟩
 rw[hF] at HF h
 rw[h] at HF
 rw[HR.out]
 have HG:=Lib.hid hG
 obtain⟨T,hT⟩:∃T,x.text=T:=⟨_,rfl⟩
 rw[hT]
 simp only[insV]
 rw[hT]
 obtain⟨A,hA⟩:∃A,x.a=A:=⟨_,rfl⟩
 try rw[hA]
 have hmf:∀(fn:Fn) (first cap:Array Value) (w:World),(Instr.makeFunc fn first cap).run Tryz.prog w= .ok (.func fn first cap) w:=fun _ _ _ _=>rfl
 have hcall:∀(v u:Value) (w':World),(callFunc 120 #[v,u]).run Tryz.prog w'= .ok (.enter 120 #[v,u]) w':=fun v u w'=>enters_of Tryz.func120 (by kernel_rfl) rfl _ _
 clear hF h hT hA hG HR
 go_enter Tryz.func82,Tryz.ntmps82
 go_wp2_with (first
  |(go_at_call 44;refine(HF.out _).mono ?_;rintro e w4 ⟨rfl,hb4⟩;have hx:=(hb4.block w.heap.size (by simp)).trans (heap_alloc_new w _);have z1:=cell_of_row w4 _ 1 _ _ _ hx;have z3:=cell_of_row w4 _ 3 _ _ _ hx;simp only[gq] at z1 z3;have HB:Hid (Below w.heap.size w w4):=Lib.hid (((Below.refl w.heap.size w).alloc (Nat.le_refl _) _).trans (hb4.mono (by simp)));have HG4:=Lib.hid (HG.out.up HB.out);clear hx hb4)
  |(go_at_call 120;refine(amongU ⟨#[43,32,45,32,42,32,47,32,37,32,38,32,124,32,94,32,60,60,32,62,62,32,61,61,32,33,61,32,60,32,60,61,32,62,32,62,61]⟩ binaryW (by kernel_rfl) (by decide) T w4 _ HG4.out z3).mono ?_;rintro e w5 ⟨rfl,hb5⟩))
 go_ret
 exact⟨ret_bool rfl,HB.out.trans (hb5.mono HB.out.size)⟩
theorem says_k18 (x:Ci) (h:(formOf x.op).text=18) (_hs:x.text.size≤4000000000):SaysOk x:=by
 intro w hG
 have HF:=Lib.hid (forms_call x.op)
 have HR:Hid (saysB x=(amongB truthW x.text.data.toList)):=Lib.hid (by unfold saysB;simp only[h])
 obtain⟨F,hF⟩:∃F,formOf x.op=F:=⟨_,rfl⟩
 rw[hF] at HF h
 rw[h] at HF
 rw[HR.out]
 have HG:=Lib.hid hG
 obtain⟨T,hT⟩:∃T,x.text=T:=⟨_,rfl⟩
 rw[hT]
 simp only[insV]
 rw[hT]
 obtain⟨A,hA⟩:∃A,x.a=A:=⟨_,rfl⟩
 try rw[hA]
 have hmf:∀(fn:Fn) (first cap:Array Value) (w:World),(Instr.makeFunc fn first cap).run Tryz.prog w= .ok (.func fn first cap) w:=fun _ _ _ _=>rfl
 have hcall:∀(v u:Value) (w':World),(callFunc 120 #[v,u]).run Tryz.prog w'= .ok (.enter 120 #[v,u]) w':=fun v u w'=>enters_of Tryz.func120 (by kernel_rfl) rfl _ _
 clear hF h hT hA hG HR
 go_enter Tryz.func82,Tryz.ntmps82
 go_wp2_with (first
  |(go_at_call 44;refine(HF.out _).mono ?_;rintro e w4 ⟨rfl,hb4⟩;have hx:=(hb4.block w.heap.size (by simp)).trans (heap_alloc_new w _);have z1:=cell_of_row w4 _ 1 _ _ _ hx;have z3:=cell_of_row w4 _ 3 _ _ _ hx;simp only[gq] at z1 z3;have HB:Hid (Below w.heap.size w w4):=Lib.hid (((Below.refl w.heap.size w).alloc (Nat.le_refl _) _).trans (hb4.mono (by simp)));have HG4:=Lib.hid (HG.out.up HB.out);clear hx hb4)
  |(go_at_call 120;refine(amongU ⟨#[38,38,32,124,124]⟩ truthW (by kernel_rfl) (by decide) T w4 _ HG4.out z3).mono ?_;rintro e w5 ⟨rfl,hb5⟩))
 go_ret
 exact⟨ret_bool rfl,HB.out.trans (hb5.mono HB.out.size)⟩
theorem says_k24 (x:Ci) (h:(formOf x.op).text=24) (_hs:x.text.size≤4000000000):SaysOk x:=by
 intro w hG
 have HF:=Lib.hid (forms_call x.op)
 have HR:Hid (saysB x=(amongB builtW x.text.data.toList)):=Lib.hid (by unfold saysB;simp only[h])
 obtain⟨F,hF⟩:∃F,formOf x.op=F:=⟨_,rfl⟩
 rw[hF] at HF h
 rw[h] at HF
 rw[HR.out]
 have HG:=Lib.hid hG
 obtain⟨T,hT⟩:∃T,x.text=T:=⟨_,rfl⟩
 rw[hT]
 simp only[insV]
 rw[hT]
 obtain⟨A,hA⟩:∃A,x.a=A:=⟨_,rfl⟩
 try rw[hA]
 have hmf:∀(fn:Fn) (first cap:Array Value) (w:World),(Instr.makeFunc fn first cap).run Tryz.prog w= .ok (.func fn first cap) w:=fun _ _ _ _=>rfl
 have hcall:∀(v u:Value) (w':World),(callFunc 120 #[v,u]).run Tryz.prog w'= .ok (.enter 120 #[v,u]) w':=fun v u w'=>enters_of Tryz.func120 (by kernel_rfl) rfl _ _
 clear hF h hT hA hG HR
 go_enter Tryz.func82,Tryz.ntmps82
 go_wp2_with (first
  |(go_at_call 44;refine(HF.out _).mono ?_;rintro e w4 ⟨rfl,hb4⟩;have hx:=(hb4.block w.heap.size (by simp)).trans (heap_alloc_new w _);have z1:=cell_of_row w4 _ 1 _ _ _ hx;have z3:=cell_of_row w4 _ 3 _ _ _ hx;simp only[gq] at z1 z3;have HB:Hid (Below w.heap.size w w4):=Lib.hid (((Below.refl w.heap.size w).alloc (Nat.le_refl _) _).trans (hb4.mono (by simp)));have HG4:=Lib.hid (HG.out.up HB.out);clear hx hb4)
  |(go_at_call 120;refine(amongU ⟨#[97,112,112,101,110,100,32,99,97,112,32,99,111,112,121,32,100,101,108,101,116,101,32,108,101,110,32,109,97,107,101,32,112,97,110,105,99,32,112,114,105,110,116,32,114,101,99,111,118,101,114,32,115,104,111,119,32,116,121,112,101,111,102]⟩ builtW (by kernel_rfl) (by decide) T w4 _ HG4.out z3).mono ?_;rintro e w5 ⟨rfl,hb5⟩))
 go_ret
 exact⟨ret_bool rfl,HB.out.trans (hb5.mono HB.out.size)⟩
theorem says_k19 (x:Ci) (h:(formOf x.op).text=19) (hs:x.text.size≤4000000000):SaysOk x:=by
 intro w hG
 have HF:=Lib.hid (forms_call x.op)
 have HR:Hid (saysB x=(typedB x.text.data.toList false false)):=Lib.hid (by unfold saysB;simp only[h])
 obtain⟨F,hF⟩:∃F,formOf x.op=F:=⟨_,rfl⟩
 rw[hF] at HF h
 rw[h] at HF
 rw[HR.out]
 have HG:=Lib.hid hG
 obtain⟨T,hT⟩:∃T,x.text=T:=⟨_,rfl⟩
 rw[hT] at hs⊢
 simp only[insV]
 rw[hT]
 obtain⟨A,hA⟩:∃A,x.a=A:=⟨_,rfl⟩
 try rw[hA]
 have hmf:∀(fn:Fn) (first cap:Array Value) (w:World),(Instr.makeFunc fn first cap).run Tryz.prog w= .ok (.func fn first cap) w:=fun _ _ _ _=>rfl
 have hcall:∀(v u:Value) (w':World),(callFunc 120 #[v,u]).run Tryz.prog w'= .ok (.enter 120 #[v,u]) w':=fun v u w'=>enters_of Tryz.func120 (by kernel_rfl) rfl _ _
 clear hF h hT hA hG HR
 go_enter Tryz.func82,Tryz.ntmps82
 go_wp2_with (first
  |(go_at_call 44;refine(HF.out _).mono ?_;rintro e w4 ⟨rfl,hb4⟩;have hx:=(hb4.block w.heap.size (by simp)).trans (heap_alloc_new w _);have z1:=cell_of_row w4 _ 1 _ _ _ hx;have z3:=cell_of_row w4 _ 3 _ _ _ hx;simp only[gq] at z1 z3;have HB:Hid (Below w.heap.size w w4):=Lib.hid (((Below.refl w.heap.size w).alloc (Nat.le_refl _) _).trans (hb4.mono (by simp)));have HG4:=Lib.hid (HG.out.up HB.out);clear hx hb4)
  |(go_at_call 123;refine(typed_any T.data.toList false false w4 HG4.out hs).mono ?_;rintro e w5 ⟨rfl,hb5⟩))
 go_ret
 exact⟨ret_bool rfl,HB.out.trans (hb5.mono HB.out.size)⟩
theorem says_k20 (x:Ci) (h:(formOf x.op).text=20) (hs:x.text.size≤4000000000):SaysOk x:=by
 intro w hG
 have HF:=Lib.hid (forms_call x.op)
 have HR:Hid (saysB x=(nameL x.text.data.toList)):=Lib.hid (by unfold saysB;simp only[h])
 obtain⟨F,hF⟩:∃F,formOf x.op=F:=⟨_,rfl⟩
 rw[hF] at HF h
 rw[h] at HF
 rw[HR.out]
 have HG:=Lib.hid hG
 obtain⟨T,hT⟩:∃T,x.text=T:=⟨_,rfl⟩
 rw[hT] at hs⊢
 simp only[insV]
 rw[hT]
 obtain⟨A,hA⟩:∃A,x.a=A:=⟨_,rfl⟩
 try rw[hA]
 have hmf:∀(fn:Fn) (first cap:Array Value) (w:World),(Instr.makeFunc fn first cap).run Tryz.prog w= .ok (.func fn first cap) w:=fun _ _ _ _=>rfl
 have hcall:∀(v u:Value) (w':World),(callFunc 120 #[v,u]).run Tryz.prog w'= .ok (.enter 120 #[v,u]) w':=fun v u w'=>enters_of Tryz.func120 (by kernel_rfl) rfl _ _
 clear hF h hT hA hG HR
 go_enter Tryz.func82,Tryz.ntmps82
 go_wp2_with (first
  |(go_at_call 44;refine(HF.out _).mono ?_;rintro e w4 ⟨rfl,hb4⟩;have hx:=(hb4.block w.heap.size (by simp)).trans (heap_alloc_new w _);have z1:=cell_of_row w4 _ 1 _ _ _ hx;have z3:=cell_of_row w4 _ 3 _ _ _ hx;simp only[gq] at z1 z3;have HB:Hid (Below w.heap.size w w4):=Lib.hid (((Below.refl w.heap.size w).alloc (Nat.le_refl _) _).trans (hb4.mono (by simp)));have HG4:=Lib.hid (HG.out.up HB.out);clear hx hb4)
  |(go_at_call 76;refine(named_any T w4 HG4.out (by omega)).mono ?_;rintro e w5 ⟨rfl,hb5⟩))
 go_ret
 exact⟨ret_bool rfl,HB.out.trans (hb5.mono HB.out.size)⟩
theorem says_k21 (x:Ci) (h:(formOf x.op).text=21) (hs:x.text.size≤4000000000):SaysOk x:=by
 intro w hG
 have HF:=Lib.hid (forms_call x.op)
 have HR:Hid (saysB x=(namesB x.text.data.toList 2)):=Lib.hid (by unfold saysB;simp only[h])
 obtain⟨F,hF⟩:∃F,formOf x.op=F:=⟨_,rfl⟩
 rw[hF] at HF h
 rw[h] at HF
 rw[HR.out]
 have HG:=Lib.hid hG
 obtain⟨T,hT⟩:∃T,x.text=T:=⟨_,rfl⟩
 rw[hT] at hs⊢
 simp only[insV]
 rw[hT]
 obtain⟨A,hA⟩:∃A,x.a=A:=⟨_,rfl⟩
 try rw[hA]
 have hmf:∀(fn:Fn) (first cap:Array Value) (w:World),(Instr.makeFunc fn first cap).run Tryz.prog w= .ok (.func fn first cap) w:=fun _ _ _ _=>rfl
 have hcall:∀(v u:Value) (w':World),(callFunc 120 #[v,u]).run Tryz.prog w'= .ok (.enter 120 #[v,u]) w':=fun v u w'=>enters_of Tryz.func120 (by kernel_rfl) rfl _ _
 clear hF h hT hA hG HR
 go_enter Tryz.func82,Tryz.ntmps82
 go_wp2_with (first
  |(go_at_call 44;refine(HF.out _).mono ?_;rintro e w4 ⟨rfl,hb4⟩;have hx:=(hb4.block w.heap.size (by simp)).trans (heap_alloc_new w _);have z1:=cell_of_row w4 _ 1 _ _ _ hx;have z3:=cell_of_row w4 _ 3 _ _ _ hx;simp only[gq] at z1 z3;have HB:Hid (Below w.heap.size w w4):=Lib.hid (((Below.refl w.heap.size w).alloc (Nat.le_refl _) _).trans (hb4.mono (by simp)));have HG4:=Lib.hid (HG.out.up HB.out);clear hx hb4)
  |(go_at_call 124;refine(names_any T.data.toList 2 w4 HG4.out hs).mono ?_;rintro e w5 ⟨rfl,hb5⟩))
 go_ret
 exact⟨ret_bool rfl,HB.out.trans (hb5.mono HB.out.size)⟩
theorem says_k22 (x:Ci) (h:(formOf x.op).text=22) (hs:x.text.size≤4000000000) (ha:0≤x.a∧x.a≤1000000):SaysOk x:=by
 intro w hG
 have HF:=Lib.hid (forms_call x.op)
 have HR:Hid (saysB x=(namesB x.text.data.toList (x.a+1))):=Lib.hid (by unfold saysB;simp only[h])
 obtain⟨F,hF⟩:∃F,formOf x.op=F:=⟨_,rfl⟩
 rw[hF] at HF h
 rw[h] at HF
 rw[HR.out]
 have HG:=Lib.hid hG
 obtain⟨T,hT⟩:∃T,x.text=T:=⟨_,rfl⟩
 rw[hT] at hs⊢
 simp only[insV]
 rw[hT]
 obtain⟨A,hA⟩:∃A,x.a=A:=⟨_,rfl⟩
 rw[hA] at ha⊢
 have hmf:∀(fn:Fn) (first cap:Array Value) (w:World),(Instr.makeFunc fn first cap).run Tryz.prog w= .ok (.func fn first cap) w:=fun _ _ _ _=>rfl
 have hcall:∀(v u:Value) (w':World),(callFunc 120 #[v,u]).run Tryz.prog w'= .ok (.enter 120 #[v,u]) w':=fun v u w'=>enters_of Tryz.func120 (by kernel_rfl) rfl _ _
 clear hF h hT hA hG HR
 go_enter Tryz.func82,Tryz.ntmps82
 go_wp2_with (first
  |(go_at_call 44;refine(HF.out _).mono ?_;rintro e w4 ⟨rfl,hb4⟩;have hx:=(hb4.block w.heap.size (by simp)).trans (heap_alloc_new w _);have z1:=cell_of_row w4 _ 1 _ _ _ hx;have z3:=cell_of_row w4 _ 3 _ _ _ hx;simp only[gq] at z1 z3;have HB:Hid (Below w.heap.size w w4):=Lib.hid (((Below.refl w.heap.size w).alloc (Nat.le_refl _) _).trans (hb4.mono (by simp)));have HG4:=Lib.hid (HG.out.up HB.out);clear hx hb4)
  |(go_at_call 124;refine(names_any T.data.toList (A+1) w4 HG4.out hs).mono ?_;rintro e w5 ⟨rfl,hb5⟩))
 go_ret
 exact⟨ret_bool rfl,HB.out.trans (hb5.mono HB.out.size)⟩
theorem says_k23a (x:Ci) (h:(formOf x.op).text=23) (_hs:x.text.size≤4000000000) (ha:x.a=2) (he:x.text.data.toList.isEmpty=true):SaysOk x:=by
 intro w hG
 have HF:=Lib.hid (forms_call x.op)
 have HR:Hid (saysB x=((x.a==2&&x.text.data.toList.isEmpty)||(decide (x.a<2)&&typedB x.text.data.toList (x.a==1) true))):=Lib.hid (by unfold saysB;simp only[h])
 obtain⟨F,hF⟩:∃F,formOf x.op=F:=⟨_,rfl⟩
 rw[hF] at HF h
 rw[h] at HF
 rw[HR.out]
 have HG:=Lib.hid hG
 obtain⟨T,hT⟩:∃T,x.text=T:=⟨_,rfl⟩
 rw[hT]
 simp only[insV]
 rw[hT]
 obtain⟨A,hA⟩:∃A,x.a=A:=⟨_,rfl⟩
 rw[hA] at ha⊢
 rw[hT] at he
 subst ha
 have hemp:T.toList.isEmpty=true:=by rw[ByteArray.toList_eq];exact he
 rw[he]
 have hmf:∀(fn:Fn) (first cap:Array Value) (w:World),(Instr.makeFunc fn first cap).run Tryz.prog w= .ok (.func fn first cap) w:=fun _ _ _ _=>rfl
 have hcall:∀(v u:Value) (w':World),(callFunc 120 #[v,u]).run Tryz.prog w'= .ok (.enter 120 #[v,u]) w':=fun v u w'=>enters_of Tryz.func120 (by kernel_rfl) rfl _ _
 clear hF h hT hA hG HR
 go_enter Tryz.func82,Tryz.ntmps82
 go_wp2_with (first
  |(go_at_call 44;refine(HF.out _).mono ?_;rintro e w4 ⟨rfl,hb4⟩;have hx:=(hb4.block w.heap.size (by simp)).trans (heap_alloc_new w _);have z1:=cell_of_row w4 _ 1 _ _ _ hx;have z3:=cell_of_row w4 _ 3 _ _ _ hx;simp only[gq] at z1 z3;have HB:Hid (Below w.heap.size w w4):=Lib.hid (((Below.refl w.heap.size w).alloc (Nat.le_refl _) _).trans (hb4.mono (by simp)));have HG4:=Lib.hid (HG.out.up HB.out);clear hx hb4))
 go_ret
 exact⟨ret_bool rfl,HB.out⟩
theorem says_k23d (x:Ci) (h:(formOf x.op).text=23) (_hs:x.text.size≤4000000000) (ha:x.a=2) (he:x.text.data.toList.isEmpty=false):SaysOk x:=by
 intro w hG
 have HF:=Lib.hid (forms_call x.op)
 have HR:Hid (saysB x=((x.a==2&&x.text.data.toList.isEmpty)||(decide (x.a<2)&&typedB x.text.data.toList (x.a==1) true))):=Lib.hid (by unfold saysB;simp only[h])
 obtain⟨F,hF⟩:∃F,formOf x.op=F:=⟨_,rfl⟩
 rw[hF] at HF h
 rw[h] at HF
 rw[HR.out]
 have HG:=Lib.hid hG
 obtain⟨T,hT⟩:∃T,x.text=T:=⟨_,rfl⟩
 rw[hT]
 simp only[insV]
 rw[hT]
 obtain⟨A,hA⟩:∃A,x.a=A:=⟨_,rfl⟩
 rw[hA] at ha⊢
 rw[hT] at he
 subst ha
 have hemp:T.toList.isEmpty=false:=by rw[ByteArray.toList_eq];exact he
 rw[he]
 have hmf:∀(fn:Fn) (first cap:Array Value) (w:World),(Instr.makeFunc fn first cap).run Tryz.prog w= .ok (.func fn first cap) w:=fun _ _ _ _=>rfl
 have hcall:∀(v u:Value) (w':World),(callFunc 120 #[v,u]).run Tryz.prog w'= .ok (.enter 120 #[v,u]) w':=fun v u w'=>enters_of Tryz.func120 (by kernel_rfl) rfl _ _
 clear hF h hT hA hG HR
 go_enter Tryz.func82,Tryz.ntmps82
 go_wp2_with (first
  |(go_at_call 44;refine(HF.out _).mono ?_;rintro e w4 ⟨rfl,hb4⟩;have hx:=(hb4.block w.heap.size (by simp)).trans (heap_alloc_new w _);have z1:=cell_of_row w4 _ 1 _ _ _ hx;have z3:=cell_of_row w4 _ 3 _ _ _ hx;simp only[gq] at z1 z3;have HB:Hid (Below w.heap.size w w4):=Lib.hid (((Below.refl w.heap.size w).alloc (Nat.le_refl _) _).trans (hb4.mono (by simp)));have HG4:=Lib.hid (HG.out.up HB.out);clear hx hb4))
 go_ret
 exact⟨ret_bool rfl,HB.out⟩
theorem says_k23b (x:Ci) (h:(formOf x.op).text=23) (hs:x.text.size≤4000000000) (ha:x.a<2):SaysOk x:=by
 intro w hG
 have HF:=Lib.hid (forms_call x.op)
 have HR:Hid (saysB x=((x.a==2&&x.text.data.toList.isEmpty)||(decide (x.a<2)&&typedB x.text.data.toList (x.a==1) true))):=Lib.hid (by unfold saysB;simp only[h])
 obtain⟨F,hF⟩:∃F,formOf x.op=F:=⟨_,rfl⟩
 rw[hF] at HF h
 rw[h] at HF
 rw[HR.out]
 have HG:=Lib.hid hG
 obtain⟨T,hT⟩:∃T,x.text=T:=⟨_,rfl⟩
 rw[hT] at hs⊢
 simp only[insV]
 rw[hT]
 obtain⟨A,hA⟩:∃A,x.a=A:=⟨_,rfl⟩
 rw[hA] at ha⊢
 have e1:(A==2)=false:=by simp;omega
 have e2:decide (A<2)=true:=decide_eq_true ha
 rw[e1,e2]
 have hmf:∀(fn:Fn) (first cap:Array Value) (w:World),(Instr.makeFunc fn first cap).run Tryz.prog w= .ok (.func fn first cap) w:=fun _ _ _ _=>rfl
 have hcall:∀(v u:Value) (w':World),(callFunc 120 #[v,u]).run Tryz.prog w'= .ok (.enter 120 #[v,u]) w':=fun v u w'=>enters_of Tryz.func120 (by kernel_rfl) rfl _ _
 clear hF h hT hA hG HR
 go_enter Tryz.func82,Tryz.ntmps82
 go_wp2_with (first
  |(go_at_call 44;refine(HF.out _).mono ?_;rintro e w4 ⟨rfl,hb4⟩;have hx:=(hb4.block w.heap.size (by simp)).trans (heap_alloc_new w _);have z1:=cell_of_row w4 _ 1 _ _ _ hx;have z3:=cell_of_row w4 _ 3 _ _ _ hx;simp only[gq] at z1 z3;have HB:Hid (Below w.heap.size w w4):=Lib.hid (((Below.refl w.heap.size w).alloc (Nat.le_refl _) _).trans (hb4.mono (by simp)));have HG4:=Lib.hid (HG.out.up HB.out);clear hx hb4)
  |(go_at_call 123;refine(typed_any T.data.toList (A==1) true w4 HG4.out hs).mono ?_;rintro e w5 ⟨rfl,hb5⟩))
 go_ret
 exact⟨ret_bool (by simp),HB.out.trans (hb5.mono HB.out.size)⟩
theorem says_k23c (x:Ci) (h:(formOf x.op).text=23) (_hs:x.text.size≤4000000000) (ha:2<x.a):SaysOk x:=by
 intro w hG
 have HF:=Lib.hid (forms_call x.op)
 have HR:Hid (saysB x=((x.a==2&&x.text.data.toList.isEmpty)||(decide (x.a<2)&&typedB x.text.data.toList (x.a==1) true))):=Lib.hid (by unfold saysB;simp only[h])
 obtain⟨F,hF⟩:∃F,formOf x.op=F:=⟨_,rfl⟩
 rw[hF] at HF h
 rw[h] at HF
 rw[HR.out]
 have HG:=Lib.hid hG
 obtain⟨T,hT⟩:∃T,x.text=T:=⟨_,rfl⟩
 rw[hT]
 simp only[insV]
 rw[hT]
 obtain⟨A,hA⟩:∃A,x.a=A:=⟨_,rfl⟩
 rw[hA] at ha⊢
 have e1:(A==2)=false:=by simp;omega
 have e2:decide (A<2)=false:=decide_eq_false (by omega)
 rw[e1,e2]
 have hmf:∀(fn:Fn) (first cap:Array Value) (w:World),(Instr.makeFunc fn first cap).run Tryz.prog w= .ok (.func fn first cap) w:=fun _ _ _ _=>rfl
 have hcall:∀(v u:Value) (w':World),(callFunc 120 #[v,u]).run Tryz.prog w'= .ok (.enter 120 #[v,u]) w':=fun v u w'=>enters_of Tryz.func120 (by kernel_rfl) rfl _ _
 clear hF h hT hA hG HR
 go_enter Tryz.func82,Tryz.ntmps82
 go_wp2_with (first
  |(go_at_call 44;refine(HF.out _).mono ?_;rintro e w4 ⟨rfl,hb4⟩;have hx:=(hb4.block w.heap.size (by simp)).trans (heap_alloc_new w _);have z1:=cell_of_row w4 _ 1 _ _ _ hx;have z3:=cell_of_row w4 _ 3 _ _ _ hx;simp only[gq] at z1 z3;have HB:Hid (Below w.heap.size w w4):=Lib.hid (((Below.refl w.heap.size w).alloc (Nat.le_refl _) _).trans (hb4.mono (by simp)));have HG4:=Lib.hid (HG.out.up HB.out);clear hx hb4))
 go_ret
 exact⟨ret_bool (by simp),HB.out⟩
theorem says_k0 (x:Ci) (h:(formOf x.op).text=0) (_hs:x.text.size≤4000000000):SaysOk x:=by
 intro w hG
 have HF:=Lib.hid (forms_call x.op)
 have HR:Hid (saysB x=(x.text.data.toList.isEmpty)):=Lib.hid (by unfold saysB;simp only[h])
 obtain⟨F,hF⟩:∃F,formOf x.op=F:=⟨_,rfl⟩
 rw[hF] at HF h
 rw[h] at HF
 rw[HR.out]
 have HG:=Lib.hid hG
 obtain⟨T,hT⟩:∃T,x.text=T:=⟨_,rfl⟩
 rw[hT]
 simp only[insV]
 rw[hT]
 obtain⟨A,hA⟩:∃A,x.a=A:=⟨_,rfl⟩
 try rw[hA]
 have hmf:∀(fn:Fn) (first cap:Array Value) (w:World),(Instr.makeFunc fn first cap).run Tryz.prog w= .ok (.func fn first cap) w:=fun _ _ _ _=>rfl
 have hcall:∀(v u:Value) (w':World),(callFunc 120 #[v,u]).run Tryz.prog w'= .ok (.enter 120 #[v,u]) w':=fun v u w'=>enters_of Tryz.func120 (by kernel_rfl) rfl _ _
 clear hF h hT hA hG HR
 go_enter Tryz.func82,Tryz.ntmps82
 go_wp2_with (first
  |(go_at_call 44;refine(HF.out _).mono ?_;rintro e w4 ⟨rfl,hb4⟩;have hx:=(hb4.block w.heap.size (by simp)).trans (heap_alloc_new w _);have z1:=cell_of_row w4 _ 1 _ _ _ hx;have z3:=cell_of_row w4 _ 3 _ _ _ hx;simp only[gq] at z1 z3;have HB:Hid (Below w.heap.size w w4):=Lib.hid (((Below.refl w.heap.size w).alloc (Nat.le_refl _) _).trans (hb4.mono (by simp)));have HG4:=Lib.hid (HG.out.up HB.out);clear hx hb4))
 go_ret
 exact⟨ret_bool (by rw[ByteArray.toList_eq]),HB.out⟩
def TextOk (x:Ci):Prop:=x.text.size≤4000000000∧((formOf x.op).text=22→0≤x.a∧x.a≤1000000)
theorem says_kinds (op:Int):(formOf op).text=0∨(12≤(formOf op).text∧(formOf op).text≤24):=by
 unfold formOf
 split
 ·rename_i h
  obtain⟨k,rfl⟩:=Int.eq_ofNat_of_zero_le (show 0≤op by omega)
  have hk:k<54:=by omega
  have:=List.all_eq_true.mp (show((List.range 54).all fun k=>((formsT.getD k .no).text==0)||(decide (12≤(formsT.getD k .no).text)&&decide ((formsT.getD k .no).text≤24)))=true by kernel_rfl) k (List.mem_range.2 hk)
  simpa using this
 ·exact .inl rfl
theorem says_any (x:Ci) (h:TextOk x):SaysOk x:=by
 obtain⟨hs,h22⟩:=h
 rcases says_kinds x.op with h|⟨h1,h2⟩
 ·exact says_k0 x h hs
 ·obtain⟨K,hK⟩:∃K,(formOf x.op).text=K:=⟨_,rfl⟩
  rw[hK] at h1 h2 h22
  have:K=12∨K=13∨K=14∨K=15∨K=16∨K=17∨K=18∨K=19∨K=20∨K=21∨K=22∨K=23∨K=24:=by omega
  rcases this with rfl|rfl|rfl|rfl|rfl|rfl|rfl|rfl|rfl|rfl|rfl|rfl|rfl
  ·exact says_k12 x hK hs
  ·exact says_k13 x hK hs
  ·exact says_k14 x hK hs
  ·exact says_k15 x hK hs
  ·exact says_k16 x hK hs
  ·exact says_k17 x hK hs
  ·exact says_k18 x hK hs
  ·exact says_k19 x hK hs
  ·exact says_k20 x hK hs
  ·exact says_k21 x hK hs
  ·exact says_k22 x hK hs (h22 rfl)
  ·by_cases ha:x.a=2
   ·cases he:x.text.data.toList.isEmpty with
    |true=>exact says_k23a x hK hs ha he
    |false=>exact says_k23d x hK hs ha he
   ·by_cases ha2:x.a<2
    ·exact says_k23b x hK hs ha2
    ·exact says_k23c x hK hs (by omega)
  ·exact says_k24 x hK hs
end Go.Proofs.YtagnicbknbmccaaGreatDoor
