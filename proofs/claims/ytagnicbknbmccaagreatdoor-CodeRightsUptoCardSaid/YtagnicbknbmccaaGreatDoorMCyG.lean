/- code.inst of a line without a text. code.opened of a function's first line. (*Program).line of an instruction's line without a text. -/
import Derived.Lib.Split
import Derived.OneCell
import Derived.Test.YtagnicbknbmccaaGreatDoorMCwF
import Derived.Test.YtagnicbknbmccaaGreatDoorSqC
import Derived.Test.YtagnicbknbmccaaGreatDoorMCxJ
import Derived.Test.YtagnicbknbmccaaGreatDoorCxI
import Derived.Test.YtagnicbknbmccaaGreatDoorMScanA
set_option maxRecDepth 100000
set_option maxHeartbeats 8000000
namespace Go.Proofs.YtagnicbknbmccaaGreatDoor
open Go.RowKit
theorem Gc.maxLen {w:World} (h:Gc w):∃m,w.cell? ⟨2,0,none⟩=some (.int .i64 m):=h.max
theorem set_other {W:World} {a b:Addr} {v u:Value} (h:W.cell? b=some u) (hne:b.block≠a.block):(W.setCell a v).cell? b=some u:=
 (World.cell?_of_block (w:=W) (a:=b) (Below.heap_setCell W _ _ _ hne)).trans h
theorem splitM_cells {s:List UInt8} {k:Nat} {a b c d:List UInt8} (hk:splitM 32 k s=[a,b,c,d]):
  Lib.splitB ⟨#[32]⟩ 0 k ⟨⟨s⟩⟩=[⟨⟨a⟩⟩,⟨⟨b⟩⟩,⟨⟨c⟩⟩,⟨⟨d⟩⟩]:=by
 have h:=Lib.splitB_data ⟨#[32]⟩ 0 k ⟨⟨s⟩⟩
 rw[show(⟨#[32]⟩:ByteArray).data.toList=[32] from rfl,splitK_one,show(⟨⟨s⟩⟩:ByteArray).data.toList=s from rfl,hk] at h
 obtain⟨l,hl⟩:∃l,Lib.splitB ⟨#[32]⟩ 0 k ⟨⟨s⟩⟩=l:=⟨_,rfl⟩
 rw[hl] at h⊢
 match l,h with
 | [⟨⟨w⟩⟩,⟨⟨x⟩⟩,⟨⟨y⟩⟩,⟨⟨z⟩⟩],h=>
  simp only[List.map_cons,List.map_nil,List.cons.injEq,and_true] at h
  obtain⟨rfl,rfl,rfl,rfl⟩:=h
  rfl
theorem cells5 (a b c d:ByteArray):Lib.cellsOf [a,b,c,d] 5= #[.string a,.string b,.string c,.string d,.string ByteArray.empty]:=rfl
theorem inst_result (tmps:Array Value) (W:World) (g:Nat) (v0 v1 v2 v3 v4 v5:Value) (h2:tmps.getD 2 undef= .pointer (some ⟨g,0,none⟩)) (h3:tmps.getD 3 undef=v5) (e0:W.cell? ⟨g,0,none⟩=some v0) (e1:W.cell? ⟨g,1,none⟩=some v1) (e2:W.cell? ⟨g,2,none⟩=some v2) (e3:W.cell? ⟨g,3,none⟩=some v3) (e4:W.cell? ⟨g,4,none⟩=some v4):
  (results Tryz.f110 tmps).run Tryz.prog W= .ok (.tuple #[.agg #[v0,v1,v2,v3,v4],v5]) W:=by
 have h2':tmps[2]?.getD undef= .pointer (some ⟨g,0,none⟩):=by simpa using h2
 have h3':tmps[3]?.getD undef=v5:=by simpa using h3
 have hres:Tryz.f110.results= #[ResultVar.cell 2 36,ResultVar.tmp 3]:=rfl
 simp[results,go_sem,h2',h3',e0,e1,e2,e3,e4]
theorem inst_plain {w:World} (hG:Gc w) {s a b c d:List UInt8} {x y z:Int} (hs:splitM 32 4 s=[a,b,c,d]) (h4:4≤s.length) (h9:s.length≤1000000) (hi:intsL [b,c,d]=some [x,y,z]) (hab:b.length≤1000000∧c.length≤1000000∧d.length≤1000000) (ho:operationL a≠0):
  Calls Tryz.prog 110 #[.string ⟨⟨s⟩⟩] w fun e w'=>e= .returned (.tuple #[.agg #[.int .i64 (operationL a:Nat),.int .i64 x,.int .i64 y,.string ⟨#[]⟩,.int .i64 z],.bool true])∧Below w.heap.size w w':=by
 obtain⟨O,hO⟩:∃O,operationL a=O:=⟨_,rfl⟩
 have hop:=fun W=>operation_any a W
 rw[hO] at hop ho⊢
 have HOP:=Lib.hid hop
 have HG:=Lib.hid hG
 have HI:=Lib.hid hi
 have hmin:min 5 ((⟨⟨s⟩⟩:ByteArray).size+1)=5:=by show min 5 (s.length+1)=5;omega
 have HSP:Hid (∀W,Gc W→Calls Tryz.prog 149 #[.string ⟨⟨s⟩⟩,.string ⟨#[32]⟩,.int .i64 5] W fun e w'=>e= .returned (.slice (some ⟨W.heap.size,0,none⟩) 4 5)∧w'=W.alloc (.cells #[.string ⟨⟨a⟩⟩,.string ⟨⟨b⟩⟩,.string ⟨⟨c⟩⟩,.string ⟨⟨d⟩⟩,.string ByteArray.empty] 9)):=Lib.hid fun W hW=>by
  obtain⟨m,hm⟩:=hW.max
  have:=Tryz.strings_SplitN ⟨⟨s⟩⟩ ⟨#[32]⟩ 5 m W (by show s.length<_;omega) hm (by decide) (by decide) (by decide)
  rw[hmin,splitM_cells (show splitM 32 (5-1) s=[a,b,c,d] from hs),cells5] at this
  exact this
 have HL:Hid (∀t∈ [b,c,d],t.length≤140737488351232):=Lib.hid (by
  intro t ht
  rcases List.mem_cons.1 ht with rfl|ht
  ·exact Nat.le_trans hab.1 (by decide)
  rcases List.mem_cons.1 ht with rfl|ht
  ·exact Nat.le_trans hab.2.1 (by decide)
  ·rw[List.mem_singleton.1 ht];exact Nat.le_trans hab.2.2 (by decide))
 have e0:((O:Int)==0)=false:=by simp[ho]
 clear hop hG hi hmin hs hO hab h4 h9 ho
 go_enter Tryz.func110,Tryz.ntmps110
 have hB0:Below w.heap.size w (w.alloc (.cells #[.int .i64 0,.int .i64 0,.int .i64 0,.string ⟨#[]⟩,.int .i64 0] 36 (0,0))):=(Below.refl _ _).alloc (Nat.le_refl _) _
 have HB0:=Lib.hid hB0
 have hr0:=heap_alloc_new w (.cells #[.int .i64 0,.int .i64 0,.int .i64 0,.string ⟨#[]⟩,.int .i64 0] 36 (0,0))
 clear hB0
 go_upto_region 2 with(go_at_call 149;refine(HSP.out _ (HG.out.up HB0.out)).mono ?_;rintro e w1 ⟨rfl,rfl⟩)
 have hr1:=(heap_alloc_old _ (.cells #[.string ⟨⟨a⟩⟩,.string ⟨⟨b⟩⟩,.string ⟨⟨c⟩⟩,.string ⟨⟨d⟩⟩,.string ByteArray.empty] 9 (0,0)) (Array.getElem?_eq_some_iff.1 hr0).1).trans hr0
 have hs1:=heap_alloc_new (w.alloc (.cells #[.int .i64 0,.int .i64 0,.int .i64 0,.string ⟨#[]⟩,.int .i64 0] 36 (0,0))) (.cells #[.string ⟨⟨a⟩⟩,.string ⟨⟨b⟩⟩,.string ⟨⟨c⟩⟩,.string ⟨⟨d⟩⟩,.string ByteArray.empty] 9 (0,0))
 rw[World.size_alloc] at hs1
 have hB1:=HB0.out.alloc (by simp) (.cells #[.string ⟨⟨a⟩⟩,.string ⟨⟨b⟩⟩,.string ⟨⟨c⟩⟩,.string ⟨⟨d⟩⟩,.string ByteArray.empty] 9 (0,0))
 obtain⟨W1,hW1⟩:∃W1,(w.alloc (.cells #[.int .i64 0,.int .i64 0,.int .i64 0,.string ⟨#[]⟩,.int .i64 0] 36 (0,0))).alloc (.cells #[.string ⟨⟨a⟩⟩,.string ⟨⟨b⟩⟩,.string ⟨⟨c⟩⟩,.string ⟨⟨d⟩⟩,.string ByteArray.empty] 9 (0,0))=W1:=⟨_,rfl⟩
 simp only[hW1] at hr1 hs1 hB1⊢
 obtain⟨rb,hrb⟩:∃rb,w.heap.size=rb:=⟨_,rfl⟩
 simp only[hrb] at hr1 hs1 hB1⊢
 obtain⟨g,hg⟩:∃g,rb+1=g:=⟨_,rfl⟩
 simp only[hg] at hr1 hs1 hB1⊢
 have q0:=cell_of_row W1 g 0 _ _ _ hs1
 simp only[gq] at q0
 have HB1:=Lib.hid hB1
 have HR1:=Lib.hid hr1
 have HQ0:=Lib.hid q0
 have HG1:=Lib.hid (HG.out.up (by rw[hrb];exact HB1.out))
 have HRW:Hid (RowIs W1 W1.heap.size (some ⟨g,1,none⟩) ([b,c,d].map fun s=>Value.string ⟨⟨s⟩⟩)):=Lib.hid (.inr ⟨g,1,rfl,(Array.getElem?_eq_some_iff.1 hs1).1,fun j v hj=>by
  have:=cell_of_row W1 g (1+j) _ _ _ hs1
  rw[this,List.getElem?_toArray]
  match j,hj with
  |0,hj=>exact hj
  |1,hj=>exact hj
  |2,hj=>exact hj⟩)
 have hgr:rb≠g:=by omega
 have hrl:=(Array.getElem?_eq_some_iff.1 hr1).1
 have hgl:=(Array.getElem?_eq_some_iff.1 hs1).1
 clear hW1 hr0 hr1 hs1 hB1 q0 HB0 hg
 go_upto_region 5 with(go_at_call 150;refine(ints_some (l:=[b,c,d]) HG1.out rfl HRW.out HI.out HL.out (by simp)).mono ?_;rintro e w2 ⟨v2,rfl,ho2,hb2⟩)
 obtain⟨ig,icap,rfl,hig1,hig2⟩:=ho2.form (show 0< [b,c,d].length by simp)
 have j0:=ho2.cells (g:=ig) rfl 0 (.int .i64 x) rfl
 have j1:=ho2.cells (g:=ig) rfl 1 (.int .i64 y) rfl
 have j2:=ho2.cells (g:=ig) rfl 2 (.int .i64 z) rfl
 simp only[Addr.add_lit,Nat.zero_add] at j0 j1 j2
 have q0:=old_cell0 HQ0.out hb2
 have HJ:=Lib.hid (And.intro j0 (And.intro j1 j2))
 have HR2:=Lib.hid ((hb2.block rb hrl).trans HR1.out)
 have HB2:=Lib.hid (HB1.out.trans (hb2.mono (by have:=HB1.out.size;omega)))
 have hs2:=hb2.size
 clear j0 j1 j2 ho2 hb2 HQ0 HR1
 go_upto_region 6 with(go_at_call 151;refine(HOP.out _).mono ?_;rintro e w3 ⟨rfl,hb3⟩)
 have hx3:=heap_alloc_new w3 (.cells #[.int .i64 O,.int .i64 0,.int .i64 0,.string ⟨#[]⟩,.int .i64 0] 36 (0,0))
 have hB4:Below w2.heap.size w2 (w3.alloc (.cells #[.int .i64 O,.int .i64 0,.int .i64 0,.string ⟨#[]⟩,.int .i64 0] 36 (0,0))):=hb3.alloc hb3.size _
 have hs3:=hb3.size
 obtain⟨xb,hxb⟩:∃xb,w3.heap.size=xb:=⟨_,rfl⟩
 obtain⟨W4,hW4⟩:∃W4,w3.alloc (.cells #[.int .i64 O,.int .i64 0,.int .i64 0,.string ⟨#[]⟩,.int .i64 0] 36 (0,0))=W4:=⟨_,rfl⟩
 simp only[hW4,hxb] at hx3 hB4 hs3⊢
 have x0:=cell_of_row W4 xb 0 _ _ _ hx3
 simp only[gq] at x0
 have HX:=Lib.hid hx3
 have HB4:=Lib.hid (HB2.out.trans (hB4.mono (by have:=HB2.out.size;omega)))
 have HR4:=Lib.hid ((hB4.block rb (by omega)).trans HR2.out)
 have i0:=old_cell0 HJ.out.1 hB4
 have i1:=old_cell0 HJ.out.2.1 hB4
 have i2:=old_cell0 HJ.out.2.2 hB4
 have hxg:ig≠xb:=by omega
 have hxr:rb≠xb:=by omega
 clear hx3 hB4 hW4 hxb hb3 HR2 HB2 HJ q0 HG1 HRW HOP HSP HL HI HG HB1
 go_upto_region 8 with fail
 clear x0
 go_cut [] (fun wx=>Hid (Below rb w wx)∧Hid (wx.heap[rb]? =some (.cells #[.int .i64 0,.int .i64 0,.int .i64 0,.string ⟨#[]⟩,.int .i64 0] 36 (0,0)))∧Hid (wx.heap[xb]? =some (.cells #[.int .i64 O,.int .i64 x,.int .i64 y,.string ⟨#[]⟩,.int .i64 z] 36 (0,0))))
 case first=>
  have HX:=Lib.hid (show W4.drew.heap[xb]? =some (.cells #[.int .i64 O,.int .i64 0,.int .i64 0,.string ⟨#[]⟩,.int .i64 0] 36 (0,0)) from HX.out)
  have HR:=Lib.hid (show W4.drew.heap[rb]? =some (.cells #[.int .i64 0,.int .i64 0,.int .i64 0,.string ⟨#[]⟩,.int .i64 0] 36 (0,0)) from HR4.out)
  have HB:Hid (Below rb w W4.drew):=Lib.hid ⟨HB4.out.os,HB4.out.tape,HB4.out.output,HB4.out.size,HB4.out.block⟩
  have hle:rb≤xb:=by omega
  have y1:=cell_of_row W4.drew xb 1 _ _ _ HX.out
  have y2:=cell_of_row W4.drew xb 2 _ _ _ HX.out
  have y4:=cell_of_row W4.drew xb 4 _ _ _ HX.out
  have f1:=frozen_of_row W4.drew xb 1 _ _ HX.out
  have f2:=frozen_of_row W4.drew xb 2 _ _ HX.out
  have f4:=frozen_of_row W4.drew xb 4 _ _ HX.out
  simp only[gq] at y1 y2 y4
  have i0:W4.drew.cell? ⟨ig,0,none⟩=some (.int .i64 x):=i0
  have i1:W4.drew.cell? ⟨ig,1,none⟩=some (.int .i64 y):=i1
  have i2:W4.drew.cell? ⟨ig,2,none⟩=some (.int .i64 z):=i2
  refine wp_region_G [] (fun u=>u.cell? ⟨ig,0,none⟩=some (.int .i64 x)∧u.cell? ⟨ig,1,none⟩=some (.int .i64 y)∧u.cell? ⟨ig,2,none⟩=some (.int .i64 z)) (by rfl) ?_ (fun hHeld=> ?_)
  ·exact⟨i0,i1,i2⟩
  generalize hwd:World.drew W4=wd at HX HR HB y1 y2 y4 f1 f2 f4 i0 i1 i2 hHeld⊢
  refine tk 0 (h:=tk 1 (h:=tk 2 (h:=tk 3 (h:=tk 4 (h:=tk 5 (h:= ?_))))))
  try simp only[nmC]
  refine tk 6 (h:=tk 7 (h:=tk 8 (h:=tk 9 (h:= ?_))))
  try simp only[nmC]
  refine rd1 10 fun KK hKK=> ?_
  go_simp
  have i0:=set_other (a:=⟨xb,1,none⟩) (v:= .int .i64 x) i0 hxg
  have i1:=set_other (a:=⟨xb,1,none⟩) (v:= .int .i64 x) i1 hxg
  have i2:=set_other (a:=⟨xb,1,none⟩) (v:= .int .i64 x) i2 hxg
  refine hKK.out _ _ (⟨i0,i1,i2⟩) (fun hHeld=> ?_)
  clear hKK KK
  try simp only[nmC]
  refine tk 11 (h:= ?_)
  try simp only[nmC]
  refine rd1 12 fun KK hKK=> ?_
  go_simp
  have i0:=set_other (a:=⟨xb,2,none⟩) (v:= .int .i64 y) i0 hxg
  have i1:=set_other (a:=⟨xb,2,none⟩) (v:= .int .i64 y) i1 hxg
  have i2:=set_other (a:=⟨xb,2,none⟩) (v:= .int .i64 y) i2 hxg
  refine hKK.out _ _ (⟨i0,i1,i2⟩) (fun hHeld=> ?_)
  clear hKK KK
  try simp only[nmC]
  refine tk 13 (h:= ?_)
  try simp only[nmC]
  refine rd1 14 fun KK hKK=> ?_
  go_simp
  have i0:=set_other (a:=⟨xb,4,none⟩) (v:= .int .i64 z) i0 hxg
  have i1:=set_other (a:=⟨xb,4,none⟩) (v:= .int .i64 z) i1 hxg
  have i2:=set_other (a:=⟨xb,4,none⟩) (v:= .int .i64 z) i2 hxg
  refine hKK.out _ _ (⟨i0,i1,i2⟩) (fun hHeld=> ?_)
  clear hKK KK
  try simp only[nmC]
  refine wpAnyG_done (by kernel_rfl) ?_ _
  have hR:=(Below.heap_setCell (((wd.setCell ⟨xb,1,none⟩ (.int .i64 x)).setCell ⟨xb,2,none⟩ (.int .i64 y))) ⟨xb,4,none⟩ (.int .i64 z) rb hxr).trans ((Below.heap_setCell _ _ _ _ hxr).trans ((Below.heap_setCell _ _ _ _ hxr).trans HR.out))
  try go_wp2_with fail
  go_meet
  exact⟨Lib.hid (((HB.out.setCell hle _).setCell hle _).setCell hle _),Lib.hid hR,Lib.hid (heap_setCell_same _ _ 4 _ _ _ (heap_setCell_same _ _ 2 _ _ _ (heap_setCell_same _ _ 1 _ _ _ HX.out)))⟩
 case rest=>
  obtain⟨HB,HR,HX⟩:=hcut
  obtain⟨y0,y1,y2,y3,y4⟩:=cr5 wc xb HX.out
  obtain⟨r0,r1,r2,r3,r4⟩:=cr5 wc rb HR.out
  have f0:=frozen_of_row wc rb 0 _ _ HR.out
  have f1:=frozen_of_row wc rb 1 _ _ HR.out
  have f2:=frozen_of_row wc rb 2 _ _ HR.out
  have f3:=frozen_of_row wc rb 3 _ _ HR.out
  have f4:=frozen_of_row wc rb 4 _ _ HR.out
  simp only[gq] at y0 y1 y2 y3 y4 r0 r1 r2 r3 r4
  go_wp2_with fail
  refine bodyPost_ret (inst_result _ _ rb (.int .i64 O) (.int .i64 x) (.int .i64 y) (.string ⟨#[]⟩) (.int .i64 z) (.bool true) rfl rfl ?_ ?_ ?_ ?_ ?_) rfl ⟨rfl, ?_⟩
  iterate 5 (·first|(simp[r0,r1,r2,r3,r4];done)|(go_simp;done))
  ·rw[hrb]
   exact((((HB.out.setCell (Nat.le_refl _) _).setCell (Nat.le_refl _) _).setCell (Nat.le_refl _) _).setCell (Nat.le_refl _) _).setCell (Nat.le_refl _) _
theorem opened_result (tmps:Array Value) (W:World) (g:Nat) (v0 v1 v2 v3 v4 v5 v6:Value) (h2:tmps.getD 2 undef= .pointer (some ⟨g,0,none⟩)) (h3:tmps.getD 3 undef=v6) (e0:W.cell? ⟨g,0,none⟩=some v0) (e1:W.cell? ⟨g,1,none⟩=some v1) (e2:W.cell? ⟨g,2,none⟩=some v2) (e3:W.cell? ⟨g,3,none⟩=some v3) (e4:W.cell? ⟨g,4,none⟩=some v4) (e5:W.cell? ⟨g,5,none⟩=some v5):
  (results Tryz.f111 tmps).run Tryz.prog W= .ok (.tuple #[.agg #[v0,v1,v2,v3,v4,v5],v6]) W:=by
 have h2':tmps[2]?.getD undef= .pointer (some ⟨g,0,none⟩):=by simpa using h2
 have h3':tmps[3]?.getD undef=v6:=by simpa using h3
 have hres:Tryz.f111.results= #[ResultVar.cell 2 33,ResultVar.tmp 3]:=rfl
 simp[results,go_sem,h2',h3',e0,e1,e2,e3,e4,e5]
theorem opened_plain {w:World} (hG:Gc w) {SA:Option Addr} {a b c:List UInt8} {x y z:Int} {cap:Nat} (h:RowIs w w.heap.size SA (([[102,117,110,99],[45],a,b,c]:List (List UInt8)).map fun s=>Value.string ⟨⟨s⟩⟩)) (hcap:5≤cap) (hi:intsL [a,b,c]=some [x,y,z]) (hab:a.length≤1000000∧b.length≤1000000∧c.length≤1000000):
  Calls Tryz.prog 111 #[.slice SA 5 cap] w fun e w'=>∃(A:Option Addr) (ic:Nat),e= .returned (.tuple #[.agg #[.string ⟨#[]⟩,.int .i64 x,.int .i64 y,.slice A 0 ic,.int .i64 z,.slice none 0 0],.bool true])∧Below w.heap.size w w':=by
 obtain⟨g,o,rfl,hg,hc⟩:=h.at (by simp)
 have c0:=hc 0 (.string ⟨#[102,117,110,99]⟩) rfl
 simp only[Nat.add_zero] at c0
 have c1:=hc 1 (.string ⟨#[45]⟩) rfl
 have HRW:Hid (RowIs w w.heap.size (some ⟨g,o+2,none⟩) (([a,b,c]:List (List UInt8)).map fun s=>Value.string ⟨⟨s⟩⟩)):=Lib.hid (.inr ⟨g,o+2,rfl,hg,fun j v hj=>by
  have:=hc (2+j) v (by match j,hj with|0,hj=>exact hj|1,hj=>exact hj|2,hj=>exact hj)
  rw[Nat.add_assoc]
  exact this⟩)
 have HG:=Lib.hid hG
 have HI:=Lib.hid hi
 have HL:Hid (∀t∈ [a,b,c],t.length≤140737488351232):=Lib.hid (by
  intro t ht
  rcases List.mem_cons.1 ht with rfl|ht
  ·exact Nat.le_trans hab.1 (by decide)
  rcases List.mem_cons.1 ht with rfl|ht
  ·exact Nat.le_trans hab.2.1 (by decide)
  ·rw[List.mem_singleton.1 ht];exact Nat.le_trans hab.2.2 (by decide))
 clear h hc hG hi hab
 go_enter Tryz.func111,Tryz.ntmps111
 have hB0:Below w.heap.size w (w.alloc (.cells #[.string ⟨#[]⟩,.int .i64 0,.int .i64 0,.slice none 0 0,.int .i64 0,.slice none 0 0] 33 (0,0))):=(Below.refl _ _).alloc (Nat.le_refl _) _
 have hr0:=heap_alloc_new w (.cells #[.string ⟨#[]⟩,.int .i64 0,.int .i64 0,.slice none 0 0,.int .i64 0,.slice none 0 0] 33 (0,0))
 have HRW0:Hid (RowIs (w.alloc (.cells #[.string ⟨#[]⟩,.int .i64 0,.int .i64 0,.slice none 0 0,.int .i64 0,.slice none 0 0] 33 (0,0))) (w.alloc (.cells #[.string ⟨#[]⟩,.int .i64 0,.int .i64 0,.slice none 0 0,.int .i64 0,.slice none 0 0] 33 (0,0))).heap.size (some ⟨g,o+2,none⟩) (([a,b,c]:List (List UInt8)).map fun s=>Value.string ⟨⟨s⟩⟩)):=Lib.hid ((HRW.out.keep hB0.block).more hB0.size)
 have HG0:=Lib.hid (HG.out.up hB0)
 go_upto_region 4 with(go_at_call 150;refine(ints_some (l:=[a,b,c]) HG0.out rfl HRW0.out HI.out HL.out (by simp)).mono ?_;rintro e w2 ⟨v2,rfl,ho2,hb2⟩)
 obtain⟨ig,icap,rfl,hig1,hig2⟩:=ho2.form (show 0< [a,b,c].length by simp)
 have hic:=(own_row ho2).2
 have j0:=ho2.cells (g:=ig) rfl 0 (.int .i64 x) rfl
 have j1:=ho2.cells (g:=ig) rfl 1 (.int .i64 y) rfl
 have j2:=ho2.cells (g:=ig) rfl 2 (.int .i64 z) rfl
 simp only[Addr.add_lit,Nat.zero_add] at j0 j1 j2
 have hic3:3≤icap:=hic
 have d1:=old_cell0 (old_cell0 c1 hB0) hb2
 have hr2:=(hb2.block w.heap.size (by rw[World.size_alloc];omega)).trans hr0
 have hB2:=hB0.trans (hb2.mono hB0.size)
 obtain⟨rb,hrb⟩:∃rb,w.heap.size=rb:=⟨_,rfl⟩
 simp only[hrb] at hr2 hB2⊢
 have hrl:=(Array.getElem?_eq_some_iff.1 hr2).1
 have HB:=Lib.hid hB2
 have HR:=Lib.hid hr2
 clear ho2 hb2 hic hB0 hr0 HRW HRW0 HG HG0 HI HL c0 c1 hg hB2 hr2
 go_upto_region 6 with fail
 go_cut [6] (fun s6 wx=>∃(xb:Nat) (A:Option Addr) (ic:Nat),s6= .pointer (some ⟨xb,0,none⟩)∧rb<xb∧Hid (Below rb w wx)∧Hid (wx.heap[rb]? =some (.cells #[.string ⟨#[]⟩,.int .i64 0,.int .i64 0,.slice none 0 0,.int .i64 0,.slice none 0 0] 33 (0,0)))∧Hid (wx.heap[xb]? =some (.cells #[.string ⟨#[45]⟩,.int .i64 x,.int .i64 y,.slice A 0 ic,.int .i64 z,.slice none 0 0] 33 (0,0))))
 case first=>
  have HB:Hid (Below rb w w2.drew):=Lib.hid ⟨HB.out.os,HB.out.tape,HB.out.output,HB.out.size,HB.out.block⟩
  have HR:=Lib.hid (show w2.drew.heap[rb]? =some (.cells #[.string ⟨#[]⟩,.int .i64 0,.int .i64 0,.slice none 0 0,.int .i64 0,.slice none 0 0] 33 (0,0)) from HR.out)
  have d1:w2.drew.cell? ⟨g,o+1,none⟩=some (.string ⟨#[45]⟩):=d1
  have i0:w2.drew.cell? ⟨ig,0,none⟩=some (.int .i64 x):=j0
  have i1:w2.drew.cell? ⟨ig,1,none⟩=some (.int .i64 y):=j1
  have i2:w2.drew.cell? ⟨ig,2,none⟩=some (.int .i64 z):=j2
  have hrl:rb<w2.drew.heap.size:=hrl
  have hig2:ig<w2.drew.heap.size:=hig2
  clear j0 j1 j2
  rcases Nat.lt_or_eq_of_le hic3 with h3|rfl
  ·refine wp_region_G [] (fun u=>u.cell? ⟨g,o+1,none⟩=some (.string ⟨#[45]⟩)∧u.cell? ⟨ig,0,none⟩=some (.int .i64 x)∧u.cell? ⟨ig,1,none⟩=some (.int .i64 y)∧u.cell? ⟨ig,2,none⟩=some (.int .i64 z)) (by rfl) ?_ (fun hHeld=> ?_)
   ·exact⟨d1,i0,i1,i2⟩
   generalize hwd:World.drew w2=wd at HB HR d1 i0 i1 i2 hrl hig2 hHeld⊢
   refine tk 0 (h:=tk 1 (h:=tk 2 (h:=tk 3 (h:=tk 4 (h:=tk 5 (h:= ?_))))))
   try simp only[nmC]
   refine tk 6 (h:=tk 7 (h:=tk 8 (h:=tk 9 (h:=tk 10 (h:=tk 11 (h:= ?_))))))
   try simp only[nmC]
   refine tk 12 (h:=tk 13 (h:=tk 14 (h:= ?_)))
   try simp only[nmC]
   refine rd1 15 fun KK hKK=> ?_
   go_simp
   have hle:rb≤wd.heap.size:=by omega
   have HBo:=HB
   refine hKK.out _ _ (⟨(World.cell?_of_block (a:=⟨g,o+1,none⟩) (heap_alloc_old _ _ (World.block_lt_of_cell? wd _ d1))).trans d1,(World.cell?_of_block (a:=⟨ig,0,none⟩) (heap_alloc_old _ _ hig2)).trans i0,(World.cell?_of_block (a:=⟨ig,1,none⟩) (heap_alloc_old _ _ hig2)).trans i1,(World.cell?_of_block (a:=⟨ig,2,none⟩) (heap_alloc_old _ _ hig2)).trans i2⟩) (fun hHeld=> ?_)
   clear hKK KK
   try simp only[nmC]
   refine rd1 16 fun KK hKK=> ?_
   go_simp
   have hle:rb≤wd.heap.size:=by omega
   refine hKK.out _ _ (⟨(World.cell?_of_block (a:=⟨g,o+1,none⟩) (heap_alloc_old _ _ (World.block_lt_of_cell? wd _ d1))).trans d1,(World.cell?_of_block (a:=⟨ig,0,none⟩) (heap_alloc_old _ _ hig2)).trans i0,(World.cell?_of_block (a:=⟨ig,1,none⟩) (heap_alloc_old _ _ hig2)).trans i1,(World.cell?_of_block (a:=⟨ig,2,none⟩) (heap_alloc_old _ _ hig2)).trans i2⟩) (fun hHeld=> ?_)
   clear hKK KK
   try simp only[nmC]
   refine wpAnyG_done (by kernel_rfl) ?_ _
   try go_wp2_with fail
   go_meet
   exact⟨wd.heap.size,_,_,rfl,hrl,Lib.hid (HBo.out.alloc hle _),Lib.hid ((heap_alloc_old _ _ hrl).trans HR.out),Lib.hid (heap_alloc_new _ _)⟩
  ·refine wp_region_G [] (fun u=>u.cell? ⟨g,o+1,none⟩=some (.string ⟨#[45]⟩)∧u.cell? ⟨ig,0,none⟩=some (.int .i64 x)∧u.cell? ⟨ig,1,none⟩=some (.int .i64 y)∧u.cell? ⟨ig,2,none⟩=some (.int .i64 z)) (by rfl) ?_ (fun hHeld=> ?_)
   ·exact⟨d1,i0,i1,i2⟩
   generalize hwd:World.drew w2=wd at HB HR d1 i0 i1 i2 hrl hig2 hHeld⊢
   refine tk 0 (h:=tk 1 (h:=tk 2 (h:=tk 3 (h:=tk 4 (h:=tk 5 (h:= ?_))))))
   try simp only[nmC]
   refine tk 6 (h:=tk 7 (h:=tk 8 (h:=tk 9 (h:=tk 10 (h:=tk 11 (h:= ?_))))))
   try simp only[nmC]
   refine tk 12 (h:=tk 13 (h:=tk 14 (h:= ?_)))
   try simp only[nmC]
   refine rd1 15 fun KK hKK=> ?_
   go_simp
   have hle:rb≤wd.heap.size:=by omega
   have HBo:=HB
   refine hKK.out _ _ (⟨(World.cell?_of_block (a:=⟨g,o+1,none⟩) (heap_alloc_old _ _ (World.block_lt_of_cell? wd _ d1))).trans d1,(World.cell?_of_block (a:=⟨ig,0,none⟩) (heap_alloc_old _ _ hig2)).trans i0,(World.cell?_of_block (a:=⟨ig,1,none⟩) (heap_alloc_old _ _ hig2)).trans i1,(World.cell?_of_block (a:=⟨ig,2,none⟩) (heap_alloc_old _ _ hig2)).trans i2⟩) (fun hHeld=> ?_)
   clear hKK KK
   try simp only[nmC]
   refine rd1 16 fun KK hKK=> ?_
   go_simp
   have hle:rb≤wd.heap.size:=by omega
   refine hKK.out _ _ (⟨(World.cell?_of_block (a:=⟨g,o+1,none⟩) (heap_alloc_old _ _ (World.block_lt_of_cell? wd _ d1))).trans d1,(World.cell?_of_block (a:=⟨ig,0,none⟩) (heap_alloc_old _ _ hig2)).trans i0,(World.cell?_of_block (a:=⟨ig,1,none⟩) (heap_alloc_old _ _ hig2)).trans i1,(World.cell?_of_block (a:=⟨ig,2,none⟩) (heap_alloc_old _ _ hig2)).trans i2⟩) (fun hHeld=> ?_)
   clear hKK KK
   try simp only[nmC]
   refine wpAnyG_done (by kernel_rfl) ?_ _
   try go_wp2_with fail
   go_meet
   exact⟨wd.heap.size,_,_,rfl,hrl,Lib.hid (HBo.out.alloc hle _),Lib.hid ((heap_alloc_old _ _ hrl).trans HR.out),Lib.hid (heap_alloc_new _ _)⟩
 case rest=>
  clear HB HR d1 j0 j1 j2
  obtain⟨xb,A,ic,rfl,hrx,HB,HR,HX⟩:=hcut
  obtain⟨y0,y1,y2,y3,y4,y5⟩:=cr6 wc xb HX.out
  have g0:=frozen_of_row wc xb 0 _ _ HX.out
  obtain⟨r0,r1,r2,r3,r4,r5⟩:=cr6 wc rb HR.out
  have f0:=frozen_of_row wc rb 0 _ _ HR.out
  have f1:=frozen_of_row wc rb 1 _ _ HR.out
  have f2:=frozen_of_row wc rb 2 _ _ HR.out
  have f3:=frozen_of_row wc rb 3 _ _ HR.out
  have f4:=frozen_of_row wc rb 4 _ _ HR.out
  have f5:=frozen_of_row wc rb 5 _ _ HR.out
  simp only[gq] at y0 y1 y2 y3 y4 y5 r0 r1 r2 r3 r4 r5
  have hxr:xb≠rb:=by omega
  have hrx2:rb≠xb:=by omega
  go_wp2_with fail
  refine bodyPost_ret (opened_result _ _ rb (.string ⟨#[]⟩) (.int .i64 x) (.int .i64 y) (.slice A 0 ic) (.int .i64 z) (.slice none 0 0) (.bool true) rfl rfl ?_ ?_ ?_ ?_ ?_ ?_) rfl ⟨A,ic,rfl, ?_⟩
  iterate 6 (·first|(simp[r0,r1,r2,r3,r4,r5];done)|(go_simp;done))
  ·rw[hrb]
   have hle:rb≤xb:=by omega
   exact((((((HB.out.setCell hle _).setCell (Nat.le_refl _) _).setCell (Nat.le_refl _) _).setCell (Nat.le_refl _) _).setCell (Nat.le_refl _) _).setCell (Nat.le_refl _) _).setCell (Nat.le_refl _) _
def rdF (xs:List Ci):Cf:=⟨⟨#[]⟩,0,1,[],-1,xs⟩
structure RdS (lo:Nat) (W0 W:World) (pb g cap:Nat) (ga:Option Addr) (gc:Nat) (fv:Fv) (xs:List Ci):Prop where
 low:Below lo W0 W
 box:W.heap[pb]? =some (.cells #[.slice (some ⟨g,0,none⟩) 1 cap,.slice ga 0 gc] 27 (0,0))
 fns:W.ownsRow lo 33 6 (.slice (some ⟨g,0,none⟩) 1 cap) 1 (fnCells (rdF xs,fv))
 ins:W.ownsRow lo 36 5 (.slice fv.ca xs.length fv.cc) xs.length (xs.flatMap insCells)
 ne1:g≠pb
 ne2:Value.ownBlock (.slice fv.ca xs.length fv.cc)≠some pb
 ne3:Value.ownBlock (.slice fv.ca xs.length fv.cc)≠some g
 lp:lo≤pb
section
variable {lo:Nat} {W0 W W' W2:World} {pb g cap gc:Nat} {ga:Option Addr} {fv:Fv} {xs:List Ci} {o:Obj}
theorem RdS.lo_le (h:RdS lo W0 W pb g cap ga gc fv xs):lo≤W.heap.size:=by
 have:=(Array.getElem?_eq_some_iff.1 h.box).1
 have:=h.lp
 omega
theorem RdS.plt (h:RdS lo W0 W pb g cap ga gc fv xs):pb<W.heap.size:=(Array.getElem?_eq_some_iff.1 h.box).1
theorem RdS.glt (h:RdS lo W0 W pb g cap ga gc fv xs):lo≤g∧g<W.heap.size:=h.fns.lt g rfl
theorem RdS.under (h:RdS lo W0 W pb g cap ga gc fv xs) (hb:Below W.heap.size W W'):RdS lo W0 W' pb g cap ga gc fv xs:=
 ⟨h.low.trans (hb.mono h.lo_le),(hb.block pb h.plt).trans h.box,own_up h.fns hb,own_up h.ins hb,h.ne1,h.ne2,h.ne3,h.lp⟩
theorem RdS.alloc (h:RdS lo W0 W pb g cap ga gc fv xs) (p:Obj):RdS lo W0 (W.alloc p) pb g cap ga gc fv xs:=h.under ((Below.refl _ _).alloc (Nat.le_refl _) _)
theorem RdS.c (h:RdS lo W0 W pb g cap ga gc fv xs):W.cell? ⟨pb,0,none⟩=some (.slice (some ⟨g,0,none⟩) 1 cap):=by
 have:=cell_of_row W pb 0 _ _ _ h.box
 simpa using this
theorem RdS.c5 (h:RdS lo W0 W pb g cap ga gc fv xs):W.cell? ⟨g,5,none⟩=some (.slice fv.ca xs.length fv.cc)∧W.frozen? ⟨g,5,none⟩=false:=
 ⟨(h.fns.cellAt 5 (by decide)).trans rfl,h.fns.frozenAt 5⟩
theorem RdS.push {x:Ci} {g2 cap2:Nat} (h:RdS lo W0 W pb g cap ga gc fv xs) (ho:W2.ownsRow lo 36 5 (.slice (some ⟨g2,0,none⟩) (xs.length+1) cap2) (xs.length+1) (xs.flatMap insCells++insCells x))
  (hg:(W.alloc o).grownBy W2 (Value.ownBlock (.slice fv.ca xs.length fv.cc))) (hb:Value.ownBlock (.slice fv.ca xs.length fv.cc)=some g2∨g2=(W.alloc o).heap.size):
  (W2.cell? ⟨g,5,none⟩=some (.slice fv.ca xs.length fv.cc)∧W2.frozen? ⟨g,5,none⟩=false)∧RdS lo W0 (W2.setCell ⟨g,5,none⟩ (.slice (some ⟨g2,0,none⟩) (xs.length+1) cap2)) pb g cap ga gc ⟨fv.ta,fv.tc,some ⟨g2,0,none⟩,cap2⟩ (xs++ [x]):=by
 have hgl:=h.glt
 have hpl:=h.plt
 have hll:=h.lo_le
 have hsz:(W.alloc o).heap.size=W.heap.size+1:=World.size_alloc _ _
 have hg2:g2≠pb∧g2≠g:=by
  rcases hb with h2|h2
  ·exact⟨fun e=>h.ne2 (by rw[h2,e]),fun e=>h.ne3 (by rw[h2,e])⟩
  ·omega
 have hf2:W2.ownsRow lo 33 6 (.slice (some ⟨g,0,none⟩) 1 cap) 1 (fnCells (rdF xs,fv)):=(h.fns.alloc o).kept hg (.inr (fun e=>h.ne3 e.symm))
 have hbx:W2.heap[pb]? =some (.cells #[.slice (some ⟨g,0,none⟩) 1 cap,.slice ga 0 gc] 27 (0,0)):=(hg.block pb (by omega) (fun e=>h.ne2 e.symm)).trans ((heap_alloc_old _ _ hpl).trans h.box)
 refine⟨⟨(hf2.cellAt 5 (by decide)).trans rfl,hf2.frozenAt 5⟩, ?_,(Below.heap_setCell _ _ _ _ (fun e=>h.ne1 e.symm)).trans hbx, ?_, ?_,h.ne1,fun e=>hg2.1 (by simpa[Value.ownBlock] using e),fun e=>hg2.2 (by simpa[Value.ownBlock] using e),h.lp⟩
 ·have hb2:Below lo W0 W2:=(h.low.alloc hll o).trans ⟨hg.os,hg.tape,hg.output,hg.size,fun k hk=>hg.block k (by omega) (fun e=>by have:=(h.ins.lt k e.symm).1;omega)⟩
  exact hb2.setCell hgl.1 _
 ·have:=(hf2.stored 5 (.slice (some ⟨g2,0,none⟩) (xs.length+1) cap2)).1
  have e:(fnCells (rdF xs,fv)).set 5 (.slice (some ⟨g2,0,none⟩) (xs.length+1) cap2)=fnCells (rdF (xs++ [x]),⟨fv.ta,fv.tc,some ⟨g2,0,none⟩,cap2⟩):=by
   simp[fnCells,rdF]
  rw[e] at this
  exact this
 ·have e1:(xs++ [x]).length=xs.length+1:=by simp
  have e2:(xs++ [x]).flatMap insCells=xs.flatMap insCells++insCells x:=by simp
  rw[e1,e2]
  exact ownsRow_setCell_other ho (fun e=>hg2.2 (by simpa[Value.ownBlock] using e)) _
end
theorem tail_of (c:UInt8) (r:List UInt8):(⟨⟨c::r⟩⟩:ByteArray).extract 1 (r.length+1)=⟨⟨r⟩⟩:=by
 have:(⟨⟨c::r⟩⟩:ByteArray).extract 1 (r.length+1)=⟨(⟨c::r⟩:Array UInt8).extract 1 (r.length+1)⟩:=by
  simp[ByteArray.extract,ByteArray.copySlice]
 rw[this]
 congr 1
 simp
theorem pline_inst {lo:Nat} {W0 W:World} {pb g cap gc:Nat} {ga:Option Addr} {fv:Fv} {xs:List Ci} (hS:RdS lo W0 W pb g cap ga gc fv xs) (hG:Gc W) {i:Nat} (hi0:1≤i) (hi1:i≤1000000) {r a b c d:List UInt8} {x y z:Int} (hs:splitM 32 4 r=[a,b,c,d]) (h4:4≤r.length) (h9:r.length≤1000000)
  (hi:intsL [b,c,d]=some [x,y,z]) (hab:b.length≤1000000∧c.length≤1000000∧d.length≤1000000) (ho:operationL a≠0) (hxl:xs.length≤1000000):
  Calls Tryz.prog 66 #[.pointer (some ⟨pb,0,none⟩),.int .i64 i,.string ⟨⟨9::r⟩⟩] W fun e W'=>e= .returned (.bool true)∧∃fv',RdS lo W0 W' pb g cap ga gc fv' (xs++ [⟨(operationL a:Nat),x,y,⟨#[]⟩,z⟩]):=by
 obtain⟨O,hO⟩:∃O,operationL a=O:=⟨_,rfl⟩
 have hins:∀V,Gc V→Calls Tryz.prog 110 #[.string ⟨⟨r⟩⟩] V fun e V'=>e= .returned (.tuple #[.agg #[.int .i64 (O:Nat),.int .i64 x,.int .i64 y,.string ⟨#[]⟩,.int .i64 z],.bool true])∧Below V.heap.size V V':=fun V hV=>by
  have:=inst_plain hV hs h4 h9 hi hab ho
  rw[hO] at this
  exact this
 have HIN:=Lib.hid hins
 have HSP:Hid (∀V,Gc V→Calls Tryz.prog 108 #[.string ⟨⟨9::r⟩⟩,.string ⟨#[32]⟩] V fun e V'=>∃n,e= .returned (.slice (some ⟨V.heap.size,0,none⟩) n n)∧Below V.heap.size V V'):=Lib.hid fun V hV=>by
  obtain⟨m,hm⟩:=hV.max
  refine(Tryz.strings_Split ⟨⟨9::r⟩⟩ ⟨#[32]⟩ m V (by show(9::r).length<_;simp;omega) hm (by decide)).mono ?_
  rintro e V' ⟨rfl,rfl⟩
  exact⟨_,rfl,(Below.refl _ _).alloc (Nat.le_refl _) _⟩
 have hpre:Lib.hasPrefix (⟨⟨9::r⟩⟩:ByteArray).data.toList (⟨#[9]⟩:ByteArray).data.toList=true:=by simp[Lib.hasPrefix]
 have HPR:=Lib.hid hpre
 have HS:=Lib.hid hS
 have HG:=Lib.hid hG
 have hi2:((i:Int)==0)=false:=by simp;omega
 rw[hO]
 have hrl:(r.length:Int)+1≤1000001:=by omega
 clear hS hG hins hpre hs hi hab ho hO
 go_enter Tryz.func66,Tryz.ntmps66
 go_upto_region 12 with(first
  |(go_at_call 108;refine(HSP.out _ HG.out).mono ?_;rintro e w1 ⟨n1,rfl,hb1⟩;have HS1:=Lib.hid (HS.out.under hb1);have HG1:=Lib.hid (HG.out.up hb1);clear hb1)
  |(go_at_call 109;refine(Tryz.strings_HasPrefix _ _ _).mono ?_;rintro e w2 ⟨rfl,rfl⟩;rw[HPR.out]))
 go_upto_region 13 with(go_at_call 110;try rw[tail_of];refine(HIN.out _ HG1.out).mono ?_;rintro e w3 ⟨rfl,hb3⟩;have HS3:=Lib.hid (HS1.out.under hb3);clear hb3)
 have HS4:=Lib.hid (HS3.out.alloc (.cells #[.int .i64 O,.int .i64 x,.int .i64 y,.string ⟨#[]⟩,.int .i64 z] 36 (0,0)))
 have hx4:=heap_alloc_new w3 (.cells #[.int .i64 O,.int .i64 x,.int .i64 y,.string ⟨#[]⟩,.int .i64 z] 36 (0,0))
 have hgx:=HS3.out.glt.2
 have hpx:=HS3.out.plt
 have hax:Value.ownBlock (.slice fv.ca xs.length fv.cc)≠some w3.heap.size:=fun e=>by have:=(HS3.out.ins.lt _ e).2;omega
 obtain⟨xb,hxb⟩:∃xb,w3.heap.size=xb:=⟨_,rfl⟩
 obtain⟨W4,hW4⟩:∃W4,w3.alloc (.cells #[.int .i64 O,.int .i64 x,.int .i64 y,.string ⟨#[]⟩,.int .i64 z] 36 (0,0))=W4:=⟨_,rfl⟩
 simp only[hW4,hxb] at HS4 hx4 hgx hpx hax⊢
 have HX:=Lib.hid hx4
 have p0:∀k,(W4.drewN k).cell? ⟨pb,0,none⟩=some (.slice (some ⟨g,0,none⟩) 1 cap):=fun _=>HS4.out.c
 have p1:=HS4.out.c
 clear hW4 hxb HS1 HS3 HG1 HIN HSP HPR HS HG hx4
 go_upto_region 15 with fail
 go_quiet (fail)
 have HS5:=Lib.hid (HS4.out.under (drew_below W4 nq))
 have HX5:=Lib.hid (show(W4.drewN nq).heap[xb]? =some (.cells #[.int .i64 O,.int .i64 x,.int .i64 y,.string ⟨#[]⟩,.int .i64 z] 36 (0,0)) from HX.out)
 obtain⟨W5,hW5⟩:∃W5,W4.drewN nq=W5:=⟨_,rfl⟩
 simp only[hW5] at HS5 HX5⊢
 clear hW5 p0 p1 HS4 HX
 go_upto_region 16 with fail
 obtain⟨i0,hi,hz0,hz1,hz2⟩:=info_parts instInfo
 have HS6:Hid (RdS lo W0 W5.drew pb g cap ga gc fv xs):=Lib.hid (HS5.out.under ⟨rfl,rfl,rfl,Nat.le_refl _,fun _ _=>rfl⟩)
 have HX6:=Lib.hid (show W5.drew.heap[xb]? =some (.cells #[.int .i64 O,.int .i64 x,.int .i64 y,.string ⟨#[]⟩,.int .i64 z] 36 (0,0)) from HX5.out)
 clear HS5 HX5
 obtain⟨y5,g5⟩:=HS6.out.c5
 obtain⟨x0,x1,x2,x3,x4⟩:=cr5 _ xb HX6.out
 simp only[gq] at x0 x1 x2 x3 x4
 have hxlt:=(Array.getElem?_eq_some_iff.1 HX6.out).1
 have hglt:=HS6.out.glt.2
 obtain⟨n,hn⟩:∃n,xs.length=n:=⟨_,rfl⟩
 have HN:=Lib.hid hn
 rw[hn] at y5 hax hxl
 clear hn
 refine wp_region_G [10] (fun u=>u.cell? ⟨g,5,none⟩=some (.slice fv.ca n fv.cc)∧u.frozen? ⟨g,5,none⟩=false∧u.cell? ⟨xb,0,none⟩=some (.int .i64 O)∧u.cell? ⟨xb,1,none⟩=some (.int .i64 x)∧u.cell? ⟨xb,2,none⟩=some (.int .i64 y)∧u.cell? ⟨xb,3,none⟩=some (.string ⟨#[]⟩)∧u.cell? ⟨xb,4,none⟩=some (.int .i64 z)) (by rfl) ?_ (fun hHeld=> ?_)
 ·exact⟨y5,g5,x0,x1,x2,x3,x4⟩
 generalize hwd:World.drew W5=wd at HS6 HX6 y5 g5 x0 x1 x2 x3 x4 hxlt hglt hHeld⊢
 refine tk 0 (h:=tk 1 (h:=tk 2 (h:=tk 3 (h:=tk 4 (h:=tk 5 (h:= ?_))))))
 try simp only[nmC]
 refine rd1 6 fun KK hKK=> ?_
 go_simp
 refine hKK.out _ _ (⟨(World.cell?_of_block (a:=⟨g,5,none⟩) (heap_alloc_old _ _ hglt)).trans y5,(frozen_keep (heap_alloc_old _ _ hglt) 5).trans g5,(World.cell?_of_block (a:=⟨xb,0,none⟩) (heap_alloc_old _ _ hxlt)).trans x0,(World.cell?_of_block (a:=⟨xb,1,none⟩) (heap_alloc_old _ _ hxlt)).trans x1,(World.cell?_of_block (a:=⟨xb,2,none⟩) (heap_alloc_old _ _ hxlt)).trans x2,(World.cell?_of_block (a:=⟨xb,3,none⟩) (heap_alloc_old _ _ hxlt)).trans x3,(World.cell?_of_block (a:=⟨xb,4,none⟩) (heap_alloc_old _ _ hxlt)).trans x4⟩) (fun hHeld=> ?_)
 clear hKK KK
 try simp only[nmC]
 refine rd1 7 fun KK hKK=> ?_
 refine step_append_lies _ rfl (.tmp 73) (.tmp 75) 31 rfl lo 36 i0 _ 5 48 Tryz.underlying31 hi hz0 hz1 hz2 rfl (by decide) (.slice fv.ca n fv.cc) n (xs.flatMap insCells) rfl (by have h:=HS6.out.ins.alloc (.cells (insCells ⟨(O:Int),x,y,⟨#[]⟩,z⟩).toArray 36 (0,0));rw[HN.out] at h;exact h) ⟨_,0,none⟩ 1 1 (insCells ⟨(O:Int),x,y,⟨#[]⟩,z⟩) rfl rfl (fun k u hu=>news_at _ _ _ _ k u hu) (by intro u hu;simp[insCells] at hu;rcases hu with rfl|rfl|rfl|rfl|rfl<;>rfl) (by decide) (by unfold maxLen;omega) (by omega) (by have:=HS6.out.lo_le;rw[World.size_alloc];omega) _ rfl ?_
 intro g2 cap2 w2 ho2 hg2 hb2 hl2
 have ho2x:=ho2
 rw[←HN.out] at ho2x hg2 hb2
 obtain⟨⟨y5,g5⟩,hs3⟩:=HS6.out.push ho2x hg2 hb2
 rw[HN.out] at y5 hs3 hg2
 have x0:=(World.cell?_of_block (a:=⟨xb,0,none⟩) (grown_keep hg2 hxlt hax)).trans x0
 have x1:=(World.cell?_of_block (a:=⟨xb,1,none⟩) (grown_keep hg2 hxlt hax)).trans x1
 have x2:=(World.cell?_of_block (a:=⟨xb,2,none⟩) (grown_keep hg2 hxlt hax)).trans x2
 have x3:=(World.cell?_of_block (a:=⟨xb,3,none⟩) (grown_keep hg2 hxlt hax)).trans x3
 have x4:=(World.cell?_of_block (a:=⟨xb,4,none⟩) (grown_keep hg2 hxlt hax)).trans x4
 have HS7:=Lib.hid hs3
 clear hs3 ho2 ho2x hg2 hb2
 refine hKK.out _ _ (⟨y5,g5,x0,x1,x2,x3,x4⟩) (fun hHeld=> ?_)
 clear hKK KK
 try simp only[nmC]
 refine rd1 8 fun KK hKK=> ?_
 go_simp
 refine hKK.out _ _ (⟨y5,g5,x0,x1,x2,x3,x4⟩) (fun hHeld=> ?_)
 clear hKK KK
 try simp only[nmC]
 refine tk 9 (h:= ?_)
 try simp only[nmC]
 refine rl1 10 fun KK hKK=> ?_
 go_simp
 refine hKK.out _ _ ?_
 clear hKK KK
 try simp only[nmC]
 refine wpAny_done (by kernel_rfl) ?_ _
 go_wp2_with fail
 go_ret
 exact⟨rfl,_,HS7.out⟩
end Go.Proofs.YtagnicbknbmccaaGreatDoor
