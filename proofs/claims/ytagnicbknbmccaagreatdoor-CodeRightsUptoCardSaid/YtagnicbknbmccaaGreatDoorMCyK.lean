/- (*Program).line of a function's line. code.Read of the least program's lines. guiselaw13.told, least, wide. guiselaw13.known: the chapter's first examples are so. guiseref13.fits in memory: the stacks, who has come where, who is done. -/
import Derived.Test.YtagnicbknbmccaaGreatDoorMCwF
import Derived.Test.YtagnicbknbmccaaGreatDoorSqC
import Derived.Test.YtagnicbknbmccaaGreatDoorMCyJ
import Derived.Test.YtagnicbknbmccaaGreatDoorMCyD
import Derived.Test.YtagnicbknbmccaaGreatDoorMCxE
import Derived.Test.YtagnicbknbmccaaGreatDoorMCxJ
import Derived.Test.YtagnicbknbmccaaGreatDoorRsF
set_option maxRecDepth 100000
set_option maxHeartbeats 8000000
namespace Go.Proofs.YtagnicbknbmccaaGreatDoor
open Go.RowKit
theorem RdS.first {lo:Nat} {W0 W W2:World} {pb g2 cap2 gc:Nat} {ga:Option Addr} {o:Obj} {A:Option Addr} {ic:Nat} (hl:Below lo W0 W) (hlo:lo≤W.heap.size) (hlp:lo≤pb) (hbx:W.heap[pb]? =some (.cells #[.slice none 0 0,.slice ga 0 gc] 27 (0,0)))
  (ho:W2.ownsRow lo 33 6 (.slice (some ⟨g2,0,none⟩) (0+1) cap2) (0+1) ([]++fnCells (rdF [],⟨A,ic,none,0⟩))) (hg:(W.alloc o).grownBy W2 (Value.ownBlock (.slice none 0 0))) (hb:Value.ownBlock (.slice none 0 0)=some g2∨g2=(W.alloc o).heap.size):
  (W2.cell? ⟨pb,0,none⟩=some (.slice none 0 0)∧W2.frozen? ⟨pb,0,none⟩=false)∧RdS lo W0 (W2.setCell ⟨pb,0,none⟩ (.slice (some ⟨g2,0,none⟩) 1 cap2)) pb g2 cap2 ga gc ⟨A,ic,none,0⟩ []:=by
 have hpl:=(Array.getElem?_eq_some_iff.1 hbx).1
 have hg2:g2=W.heap.size+1:=by
  rcases hb with h|h
  ·simp[Value.ownBlock] at h
  ·rwa [World.size_alloc] at h
 have hb2:=(grown_keep hg hpl (by simp[Value.ownBlock])).trans hbx
 have p0:=cell_of_row W2 pb 0 _ _ _ hb2
 simp only[gq] at p0
 refine⟨⟨p0,frozen_of_row W2 pb 0 _ _ hb2⟩, ?_,heap_setCell_same _ _ 0 _ _ _ hb2,ownsRow_setCell_other (by simpa using ho) (by simp[Value.ownBlock];omega) _,World.ownsRow_nil _ _ _ _,by omega,by simp[Value.ownBlock],by simp[Value.ownBlock],hlp⟩
 exact((hl.alloc hlo o).trans ⟨hg.os,hg.tape,hg.output,hg.size,fun k hk=>hg.block k (by rw[World.size_alloc];omega) (by simp[Value.ownBlock])⟩).setCell hlp _
theorem pline_func {lo:Nat} {W0 W:World} {pb gc:Nat} {ga:Option Addr} (hl:Below lo W0 W) (hlp:lo≤pb) (hb:W.heap[pb]? =some (.cells #[.slice none 0 0,.slice ga 0 gc] 27 (0,0))) (hG:Gc W) {S:ByteArray} {a b c:List UInt8} (hS:SplitTo S [[102,117,110,99],[45],a,b,c] 5) (hpre:Lib.hasPrefix S.data.toList [9]=false)
  (hi:intsL [a,b,c]=some [0,1,-1]) (hab:a.length≤1000000∧b.length≤1000000∧c.length≤1000000):
  Calls Tryz.prog 66 #[.pointer (some ⟨pb,0,none⟩),.int .i64 1,.string S] W fun e W'=>e= .returned (.bool true)∧∃g cap fv,RdS lo W0 W' pb g cap ga gc fv []:=by
 have HSP:Hid (∀V,Gc V→Calls Tryz.prog 108 #[.string S,.string ⟨#[32]⟩] V fun e V'=>e= .returned (.slice (some ⟨V.heap.size,0,none⟩) 5 5)∧V'=V.alloc (.cells (cellsS [[102,117,110,99],[45],a,b,c]).toArray 9)):=Lib.hid hS
 have hpl:=(Array.getElem?_eq_some_iff.1 hb).1
 have HG:=Lib.hid hG
 have HPR:Hid (Lib.hasPrefix S.data.toList (⟨#[9]⟩:ByteArray).data.toList=false):=Lib.hid hpre
 have hB1:Below W.heap.size W (W.alloc (.cells (cellsS [[102,117,110,99],[45],a,b,c]).toArray 9 (0,0))):=(Below.refl _ _).alloc (Nat.le_refl _) _
 have HRW:Hid (RowIs (W.alloc (.cells (cellsS [[102,117,110,99],[45],a,b,c]).toArray 9 (0,0))) (W.alloc (.cells (cellsS [[102,117,110,99],[45],a,b,c]).toArray 9 (0,0))).heap.size (some ⟨W.heap.size,0,none⟩) (cellsS [[102,117,110,99],[45],a,b,c])):=Lib.hid (.inr ⟨W.heap.size,0,rfl,by simp,fun j v hj=>by
  rw[Nat.zero_add,cell_of_row _ W.heap.size j _ _ _ (heap_alloc_new W _),List.getElem?_toArray]
  exact hj⟩)
 have HG1:=Lib.hid (hG.up hB1)
 have HL:=Lib.hid (hl.trans (hB1.mono (by omega)))
 have HB:=Lib.hid ((heap_alloc_old W (.cells (cellsS [[102,117,110,99],[45],a,b,c]).toArray 9 (0,0)) hpl).trans hb)
 have hlo:lo≤W.heap.size:=by omega
 have HOP:Hid (∀V:World,Gc V→RowIs V V.heap.size (some ⟨W.heap.size,0,none⟩) (cellsS [[102,117,110,99],[45],a,b,c])→Calls Tryz.prog 111 #[.slice (some ⟨W.heap.size,0,none⟩) 5 5] V fun e w'=>∃(A:Option Addr) (ic:Nat),e= .returned (.tuple #[.agg #[.string ⟨#[]⟩,.int .i64 0,.int .i64 1,.slice A 0 ic,.int .i64 (-1),.slice none 0 0],.bool true])∧Below V.heap.size V w'):=Lib.hid fun V hV hr=>opened_plain hV hr (by omega) hi hab
 clear hS hG hl hb hpre hi hab hB1
 go_enter Tryz.func66,Tryz.ntmps66
 go_upto_region 18 with(first
  |(go_at_call 108;refine(HSP.out _ HG.out).mono ?_;rintro e w1 ⟨rfl,rfl⟩)
  |(go_at_call 109;refine(Tryz.strings_HasPrefix _ _ _).mono ?_;rintro e w2 ⟨rfl,rfl⟩;rw[HPR.out]))
 obtain⟨sb,hsb⟩:∃sb,W.heap.size=sb:=⟨_,rfl⟩
 obtain⟨W1,hW1⟩:∃W1,W.alloc (.cells (cellsS [[102,117,110,99],[45],a,b,c]).toArray 9 (0,0))=W1:=⟨_,rfl⟩
 have hsz:W1.heap.size=sb+1:=by rw[←hW1,World.size_alloc,hsb]
 simp only[hsb,hW1] at HL HB HRW HG1 HOP hlo hpl⊢
 clear hW1 hsb HG HSP HPR
 go_upto_region 19 with(go_at_call 111;refine(HOP.out _ HG1.out HRW.out).mono ?_;rintro e w3 ⟨A,ic,rfl,hb3⟩)
 have hs3:=hb3.size
 have hL4:=(HL.out.trans (hb3.mono (by omega))).alloc (by omega) (.cells #[.string ⟨#[]⟩,.int .i64 0,.int .i64 1,.slice A 0 ic,.int .i64 (-1),.slice none 0 0] 33 (0,0))
 have hb4:=(heap_alloc_old w3 (.cells #[.string ⟨#[]⟩,.int .i64 0,.int .i64 1,.slice A 0 ic,.int .i64 (-1),.slice none 0 0] 33 (0,0)) (by omega)).trans ((hb3.block pb (by omega)).trans HB.out)
 have hx4:=heap_alloc_new w3 (.cells #[.string ⟨#[]⟩,.int .i64 0,.int .i64 1,.slice A 0 ic,.int .i64 (-1),.slice none 0 0] 33 (0,0))
 obtain⟨xb,hxb⟩:∃xb,w3.heap.size=xb:=⟨_,rfl⟩
 obtain⟨W4,hW4⟩:∃W4,w3.alloc (.cells #[.string ⟨#[]⟩,.int .i64 0,.int .i64 1,.slice A 0 ic,.int .i64 (-1),.slice none 0 0] 33 (0,0))=W4:=⟨_,rfl⟩
 have hs4:W4.heap.size=xb+1:=by rw[←hW4,World.size_alloc,hxb]
 simp only[hW4,hxb] at hL4 hb4 hx4 hs3⊢
 obtain⟨i0,hi,hz0,hz1,hz2⟩:=info_parts funcInfo
 have HL4:Hid (Below lo W0 W4.drew):=Lib.hid ⟨hL4.os,hL4.tape,hL4.output,hL4.size,hL4.block⟩
 have HB4:=Lib.hid (show W4.drew.heap[pb]? =some (.cells #[.slice none 0 0,.slice ga 0 gc] 27 (0,0)) from hb4)
 have HX4:=Lib.hid (show W4.drew.heap[xb]? =some (.cells #[.string ⟨#[]⟩,.int .i64 0,.int .i64 1,.slice A 0 ic,.int .i64 (-1),.slice none 0 0] 33 (0,0)) from hx4)
 have hld:lo≤W4.drew.heap.size:=by show lo≤W4.heap.size;omega
 have hxlt:=(Array.getElem?_eq_some_iff.1 HX4.out).1
 have hplt:=(Array.getElem?_eq_some_iff.1 HB4.out).1
 have y0:=cell_of_row _ pb 0 _ _ _ HB4.out
 have g0:=frozen_of_row _ pb 0 _ _ HB4.out
 obtain⟨x0,x1,x2,x3,x4,x5⟩:=cr6 _ xb HX4.out
 simp only[gq] at y0 x0 x1 x2 x3 x4 x5
 clear hL4 hb4 hx4 HL HB HRW HG1 HOP hb3 hW4 hxb
 refine wp_region_G [10] (fun u=>u.cell? ⟨pb,0,none⟩=some (.slice none 0 0)∧u.frozen? ⟨pb,0,none⟩=false∧u.cell? ⟨xb,0,none⟩=some (.string ⟨#[]⟩)∧u.cell? ⟨xb,1,none⟩=some (.int .i64 0)∧u.cell? ⟨xb,2,none⟩=some (.int .i64 1)∧u.cell? ⟨xb,3,none⟩=some (.slice A 0 ic)∧u.cell? ⟨xb,4,none⟩=some (.int .i64 (-1))∧u.cell? ⟨xb,5,none⟩=some (.slice none 0 0)) (by rfl) ?_ (fun hHeld=> ?_)
 ·exact⟨y0,g0,x0,x1,x2,x3,x4,x5⟩
 generalize hwd:World.drew W4=wd at HL4 HB4 HX4 y0 g0 x0 x1 x2 x3 x4 x5 hxlt hplt hld hHeld⊢
 refine tk 0 (h:=tk 1 (h:=tk 2 (h:=tk 3 (h:=tk 4 (h:=tk 5 (h:= ?_))))))
 try simp only[nmC]
 refine rd1 6 fun KK hKK=> ?_
 go_simp
 refine hKK.out _ _ (⟨(World.cell?_of_block (a:=⟨pb,0,none⟩) (heap_alloc_old _ _ hplt)).trans y0,(frozen_keep (heap_alloc_old _ _ hplt) 0).trans g0,(World.cell?_of_block (a:=⟨xb,0,none⟩) (heap_alloc_old _ _ hxlt)).trans x0,(World.cell?_of_block (a:=⟨xb,1,none⟩) (heap_alloc_old _ _ hxlt)).trans x1,(World.cell?_of_block (a:=⟨xb,2,none⟩) (heap_alloc_old _ _ hxlt)).trans x2,(World.cell?_of_block (a:=⟨xb,3,none⟩) (heap_alloc_old _ _ hxlt)).trans x3,(World.cell?_of_block (a:=⟨xb,4,none⟩) (heap_alloc_old _ _ hxlt)).trans x4,(World.cell?_of_block (a:=⟨xb,5,none⟩) (heap_alloc_old _ _ hxlt)).trans x5⟩) (fun hHeld=> ?_)
 clear hKK KK
 try simp only[nmC]
 refine rd1 7 fun KK hKK=> ?_
 refine step_append_lies _ rfl (.tmp 88) (.tmp 90) 24 rfl lo 33 i0 _ 6 88 Tryz.underlying24 hi hz0 hz1 hz2 rfl (by decide) (.slice none 0 0) 0 [] rfl (World.ownsRow_nil _ _ _ _) ⟨_,0,none⟩ 1 1 (fnCells (rdF [],⟨A,ic,none,0⟩)) rfl rfl (fun k u hu=>news_at _ _ _ _ k u hu) (by intro u hu;simp[fnCells,rdF] at hu;rcases hu with rfl|rfl|rfl|rfl|rfl|rfl<;>rfl) (by decide) (by unfold maxLen;omega) (by omega) (by rw[World.size_alloc];omega) _ rfl ?_
 intro g2 cap2 w2 ho2 hg2 hb2 hl2
 obtain⟨⟨y0,g0⟩,hs5⟩:=RdS.first HL4.out hld hlp HB4.out ho2 hg2 hb2
 have x0:=(World.cell?_of_block (a:=⟨xb,0,none⟩) (grown_keep hg2 hxlt (by simp[Value.ownBlock]))).trans x0
 have x1:=(World.cell?_of_block (a:=⟨xb,1,none⟩) (grown_keep hg2 hxlt (by simp[Value.ownBlock]))).trans x1
 have x2:=(World.cell?_of_block (a:=⟨xb,2,none⟩) (grown_keep hg2 hxlt (by simp[Value.ownBlock]))).trans x2
 have x3:=(World.cell?_of_block (a:=⟨xb,3,none⟩) (grown_keep hg2 hxlt (by simp[Value.ownBlock]))).trans x3
 have x4:=(World.cell?_of_block (a:=⟨xb,4,none⟩) (grown_keep hg2 hxlt (by simp[Value.ownBlock]))).trans x4
 have x5:=(World.cell?_of_block (a:=⟨xb,5,none⟩) (grown_keep hg2 hxlt (by simp[Value.ownBlock]))).trans x5
 have HS7:=Lib.hid hs5
 clear hs5 ho2 hg2 hb2
 refine hKK.out _ _ (⟨y0,g0,x0,x1,x2,x3,x4,x5⟩) (fun hHeld=> ?_)
 clear hKK KK
 try simp only[nmC]
 refine rd1 8 fun KK hKK=> ?_
 go_simp
 refine hKK.out _ _ (⟨y0,g0,x0,x1,x2,x3,x4,x5⟩) (fun hHeld=> ?_)
 clear hKK KK
 try simp only[nmC]
 refine tk 9 (h:= ?_)
 try simp only[nmC]
 refine rl1 10 fun KK hKK=> ?_
 go_simp
 refine hKK.out _ _ ?_
 clear hKK KK
 try simp only[nmC]
 refine wpAny_done (by kernel_rfl) ?_ _
 go_wp2_with fail
 go_ret
 exact⟨rfl,_,_,_,HS7.out⟩
def lsR:Nat→List UInt8
 |0=>leastL
 |1=>leastL.drop 8
 |2=>leastL.drop 22
 |3=>leastL.drop 33
 |_=> []
def lsX:Nat→List UInt8
 |0=> [103,108,111,98,97,108,115]
 |1=> [102,117,110,99,32,45,32,48,32,49,32,45,49]
 |2=> [9,110,105,108,32,48,32,48,32,48]
 |3=> [9,114,101,116,117,114,110,32,48,32,48,32,48]
 |_=> []
def LsS (lo:Nat) (W0:World) (pb:Nat):Nat→World→Prop
 |0,W=>Below lo W0 W∧W.heap[pb]? =some (.cells #[.slice none 0 0,.slice none 0 0] 27 (0,0))
 |1,W=>Below lo W0 W∧∃ga gc,W.heap[pb]? =some (.cells #[.slice none 0 0,.slice ga 0 gc] 27 (0,0))
 |2,W=>∃g cap ga gc fv,RdS lo W0 W pb g cap ga gc fv []
 |3,W=>∃g cap ga gc fv,RdS lo W0 W pb g cap ga gc fv [⟨7,0,0,⟨#[]⟩,0⟩]
 |_,W=>∃g cap ga gc fv,RdS lo W0 W pb g cap ga gc fv [⟨7,0,0,⟨#[]⟩,0⟩,⟨50,0,0,⟨#[]⟩,0⟩]
theorem LsS.low {lo:Nat} {W0:World} {pb:Nat}:∀(k:Nat) {W:World},LsS lo W0 pb k W→Below lo W0 W
 |0,_,h=>h.1
 |1,_,h=>h.1
 |2,_,⟨_,_,_,_,_,h⟩=>h.low
 |3,_,⟨_,_,_,_,_,h⟩=>h.low
 |_+4,_,⟨_,_,_,_,_,h⟩=>h.low
theorem LsS.under {lo:Nat} {W0:World} {pb:Nat} (hp:lo≤pb):∀(k:Nat) {W W':World},LsS lo W0 pb k W→Below W.heap.size W W'→LsS lo W0 pb k W'
 |0,_,_,h,hb=>by
  have:=(Array.getElem?_eq_some_iff.1 h.2).1
  exact⟨h.1.trans (hb.mono (by omega)),(hb.block pb this).trans h.2⟩
 |1,_,_,h,hb=>by
  obtain⟨h1,ga,gc,h2⟩:=h
  have:=(Array.getElem?_eq_some_iff.1 h2).1
  exact⟨h1.trans (hb.mono (by omega)),ga,gc,(hb.block pb this).trans h2⟩
 |2,_,_,⟨g,cap,ga,gc,fv,h⟩,hb=>⟨g,cap,ga,gc,fv,h.under hb⟩
 |3,_,_,⟨g,cap,ga,gc,fv,h⟩,hb=>⟨g,cap,ga,gc,fv,h.under hb⟩
 |_+4,_,_,⟨g,cap,ga,gc,fv,h⟩,hb=>⟨g,cap,ga,gc,fv,h.under hb⟩
theorem ints_000:intsL [[48],[48],[48]]=some [0,0,0]:=by simp only[intsL,int_0]
theorem ls_line {lo:Nat} {W0:World} {pb:Nat} (hp:lo≤pb):∀k,k<4→∀V,LsS lo W0 pb k V→Gc V→
  Calls Tryz.prog 66 #[.pointer (some ⟨pb,0,none⟩),.int .i64 k,.string ⟨⟨lsX k⟩⟩] V fun e V'=>e= .returned (.bool true)∧LsS lo W0 pb (k+1) V':=by
 intro k hk V hS hG
 match k,hk,hS with
 |0,_,hS=>
  refine(pline_globals hS.1 hp hS.2 hG (split_to _ _ _ (by kernel_rfl) (by kernel_rfl) (by decide))).mono ?_
  rintro e V' ⟨rfl,h1,h2⟩
  exact⟨rfl,h1,h2⟩
 |1,_,hS=>
  obtain⟨h1,ga,gc,h2⟩:=hS
  refine(pline_func h1 hp h2 hG (a:=[48]) (b:=[49]) (c:=[45,49]) (split_to _ _ _ (by kernel_rfl) (by kernel_rfl) (by decide)) (by kernel_rfl) (by simp only[intsL,int_0,int_1,int_m1]) (by decide)).mono ?_
  rintro e V' ⟨rfl,g,cap,fv,h⟩
  exact⟨rfl,g,cap,ga,gc,fv,h⟩
 |2,_,⟨g,cap,ga,gc,fv,h⟩=>
  refine(pline_inst h hG (i:=2) (by decide) (by decide) (r:=[110,105,108,32,48,32,48,32,48]) (a:=[110,105,108]) (b:=[48]) (c:=[48]) (d:=[48]) (x:=0) (y:=0) (z:=0) (by kernel_rfl) (by decide) (by decide) ints_000 (by decide) (by decide) (by decide)).mono ?_
  rintro e V' ⟨rfl,fv',h⟩
  exact⟨rfl,g,cap,ga,gc,fv',h⟩
 |3,_,⟨g,cap,ga,gc,fv,h⟩=>
  refine(pline_inst h hG (i:=3) (by decide) (by decide) (r:=[114,101,116,117,114,110,32,48,32,48,32,48]) (a:=[114,101,116,117,114,110]) (b:=[48]) (c:=[48]) (d:=[48]) (x:=0) (y:=0) (z:=0) (by kernel_rfl) (by decide) (by decide) ints_000 (by decide) (by decide) (by decide)).mono ?_
  rintro e V' ⟨rfl,fv',h⟩
  exact⟨rfl,g,cap,ga,gc,fv',h⟩
theorem ls_cut0:Lib.cut (lsR 0) [10]=(lsX 0,lsR 1,true):=by kernel_rfl
theorem ls_cut1:Lib.cut (lsR 1) [10]=(lsX 1,lsR 2,true):=by kernel_rfl
theorem ls_cut2:Lib.cut (lsR 2) [10]=(lsX 2,lsR 3,true):=by kernel_rfl
theorem ls_cut3:Lib.cut (lsR 3) [10]=(lsX 3,lsR 4,true):=by kernel_rfl
theorem ls_cut:∀k,k<4→∀V,Gc V→Calls Tryz.prog 65 #[.string ⟨⟨lsR k⟩⟩,.string ⟨#[10]⟩] V fun e V'=>e= .returned (.tuple #[.string ⟨⟨lsX k⟩⟩,.string ⟨⟨lsR (k+1)⟩⟩,.bool true])∧Below V.heap.size V V':=by
 intro k hk V hV
 obtain⟨m,hm⟩:=hV.max
 have hc:Lib.cut (lsR k) [10]=(lsX k,lsR (k+1),true):=by
  match k,hk with
  |0,_=>exact ls_cut0
  |1,_=>exact ls_cut1
  |2,_=>exact ls_cut2
  |3,_=>exact ls_cut3
 have hl:(lsR k).length≤1000:=by
  match k,hk with
  |0,_=>decide
  |1,_=>decide
  |2,_=>decide
  |3,_=>decide
 refine(Tryz.strings_Cut ⟨⟨lsR k⟩⟩ ⟨#[10]⟩ m V (by show(lsR k).length<_;omega) hm).mono ?_
 rintro e V' ⟨rfl,n,rfl⟩
 rw[show(⟨⟨lsR k⟩⟩:ByteArray).data.toList=lsR k from rfl,show(⟨#[10]⟩:ByteArray).data.toList=[10] from rfl,hc]
 exact⟨rfl,drew_below V n⟩
theorem lies_own {lo:Nat} {W:World} {g cap gc:Nat} {ga:Option Addr} {fv:Fv} (h1:W.ownsRow lo 33 6 (.slice (some ⟨g,0,none⟩) 1 cap) 1 (fnCells (leastF,fv))) (h2:W.ownsRow lo 36 5 (.slice fv.ca 2 fv.cc) 2 (leastF.code.flatMap insCells)):LiesC W W.heap.size least (.agg #[.slice (some ⟨g,0,none⟩) 1 cap,.slice ga 0 gc]):=by
 obtain⟨r1,c1⟩:=own_row h1
 obtain⟨r2,c2⟩:=own_row h2
 refine⟨some ⟨g,0,none⟩,cap,ga,gc,[(leastF,fv)],rfl,rfl, ?_,.inl rfl,c1,Nat.zero_le _,fun x hx=> ?_⟩
 ·rw[List.flatMap_cons,List.flatMap_nil,List.append_nil]
  exact r1
 rw[List.mem_singleton.1 hx]
 exact⟨.inl rfl,r2,Nat.zero_le _,c2⟩
theorem RdS.lies {lo:Nat} {W0 W:World} {pb g cap gc:Nat} {ga:Option Addr} {fv:Fv} (h:RdS lo W0 W pb g cap ga gc fv [⟨7,0,0,⟨#[]⟩,0⟩,⟨50,0,0,⟨#[]⟩,0⟩]):LiesC W W.heap.size least (.agg #[.slice (some ⟨g,0,none⟩) 1 cap,.slice ga 0 gc]):=lies_own h.fns h.ins
theorem read_result (tmps:Array Value) (W:World) (g:Nat) (v0 v1:Value) (h2:tmps.getD 2 undef= .pointer (some ⟨g,0,none⟩)) (h3:tmps.getD 3 undef= .nilIface) (e0:W.cell? ⟨g,0,none⟩=some v0) (e1:W.cell? ⟨g,1,none⟩=some v1):
  (results Tryz.f28 tmps).run Tryz.prog W= .ok (.tuple #[.agg #[v0,v1],.nilIface]) W:=by
 have h2':tmps[2]?.getD undef= .pointer (some ⟨g,0,none⟩):=by simpa using h2
 have h3':tmps[3]?.getD undef= .nilIface:=by simpa using h3
 have hres:Tryz.f28.results= #[ResultVar.cell 2 27,ResultVar.tmp 3]:=rfl
 simp[results,go_sem,h2',h3',e0,e1]
theorem read_least {w:World} (hG:Gc w):Calls Tryz.prog 28 #[.string ⟨⟨leastL⟩⟩] w fun e w'=>∃v,e= .returned (.tuple #[v,.nilIface])∧LiesC w' w'.heap.size least v∧Below w.heap.size w w':=by
 have HG:=Lib.hid hG
 obtain⟨R,hR⟩:∃R,lsR=R:=⟨_,rfl⟩
 obtain⟨X,hX⟩:∃X,lsX=X:=⟨_,rfl⟩
 have hcut:=ls_cut
 have hline:= @ls_line
 have e0:∀k,k<4→(R k).isEmpty=false:=by
  subst hR
  intro k hk
  match k,hk with
  |0,_=>rfl
  |1,_=>rfl
  |2,_=>rfl
  |3,_=>rfl
 have e4:R 4=[]:=by subst hR;rfl
 rw[show leastL=R 0 by subst hR;rfl]
 rw[hR,hX] at hcut
 rw[hX] at hline
 have HC:=Lib.hid hcut
 have HE:=Lib.hid e0
 have HE4:=Lib.hid e4
 clear hcut hG hR hX e4
 go_enter Tryz.func28,Tryz.ntmps28
 have hb0:=heap_alloc_new w (.cells #[.slice none 0 0,.slice none 0 0] 27 (0,0))
 have hL0:Below w.heap.size w (w.alloc (.cells #[.slice none 0 0,.slice none 0 0] 27 (0,0))):=(Below.refl _ _).alloc (Nat.le_refl _) _
 obtain⟨W0,hW0⟩:∃W0,w.alloc (.cells #[.slice none 0 0,.slice none 0 0] 27 (0,0))=W0:=⟨_,rfl⟩
 have hsz:W0.heap.size=w.heap.size+1:=by rw[←hW0,World.size_alloc]
 have hb1:=heap_alloc_new W0 (.cells #[.slice none 0 0,.slice none 0 0] 27 (0,0))
 have hS0:LsS (w.heap.size+1) W0 (w.heap.size+1) 0 (W0.alloc (.cells #[.slice none 0 0,.slice none 0 0] 27 (0,0))):=⟨by rw[←hsz];exact(Below.refl _ _).alloc (Nat.le_refl _) _,by rw[←hsz];exact hb1⟩
 have e00:=HE.out 0 (by decide)
 go_upto_region 5 with fail
 obtain⟨lo,hlo⟩:∃lo,w.heap.size+1=lo:=⟨_,rfl⟩
 obtain⟨W1,hW1⟩:∃W1,W0.alloc (.cells #[.slice none 0 0,.slice none 0 0] 27 (0,0))=W1:=⟨_,rfl⟩
 simp only[hW0,hW1,hlo] at hS0 hL0⊢
 have HS0:=Lib.hid hS0
 have HL0:=Lib.hid hL0
 have HB0:Hid (W0.heap[w.heap.size]? =some (.cells #[.slice none 0 0,.slice none 0 0] 27 (0,0))):=Lib.hid (by rw[←hW0];exact hb0)
 have HUP:Hid (∀(k:Nat) (V:World),LsS lo W0 lo k V→Below w.heap.size w V∧V.heap[w.heap.size]? =some (.cells #[.slice none 0 0,.slice none 0 0] 27 (0,0))):=Lib.hid fun k V hS=>by
  have hl:=LsS.low k hS
  exact⟨HL0.out.trans (hl.mono (by omega)),(hl.block _ (by omega)).trans HB0.out⟩
 clear hW1 hS0 hL0 hb0 hb1 hW0
 go_loopw [0,5] (fun s i wr=>∃k:Nat,k≤4∧s= .string ⟨⟨R k⟩⟩∧i= .int .i64 k∧Hid (LsS lo W0 lo k wr)) (fun _ i _=>4-(intOf i).toNat)
 case atStart=>exact⟨0,by decide,rfl,rfl,HS0⟩
 case round=>
  clear HS0
  obtain⟨k,hk,rfl,rfl,HS⟩:=hrel
  by_cases hlt:k<4
  ·have e1:=HE.out k hlt
   have HLN:Hid (∀V,LsS lo W0 lo k V→Calls Tryz.prog 66 #[.pointer (some ⟨lo,0,none⟩),.int .i64 k,.string ⟨⟨X k⟩⟩] V fun e V'=>e= .returned (.bool true)∧LsS lo W0 lo (k+1) V'):=Lib.hid fun V hV=>hline (Nat.le_refl _) k hlt V hV (HG.out.up (HUP.out k V hV).1)
   go_wp2_with (first
    |(go_at_call 65;refine(HC.out k hlt _ (HG.out.up (HUP.out k _ HS.out).1)).mono ?_;rintro e w2 ⟨rfl,hb2⟩;have HS2:=Lib.hid (LsS.under (Nat.le_refl _) k HS.out hb2))
    |(go_at_call 66;refine(HLN.out _ HS2.out).mono ?_;rintro e w3 ⟨rfl,hs3⟩;have HS3:=Lib.hid hs3))
   go_roundw
   case rel=>exact⟨k+1,by omega,rfl,by simp,HS3⟩
   case measure=>simp[intOf];omega
  ·obtain rfl:k=4:=by omega
   rw[HE4.out]
   obtain⟨g,cap,ga,gc,fv,hS⟩:=HS.out
   have hub:=HUP.out 4 wr HS.out
   have HRT:=Lib.hid (right_plain least_plain (HG.out.up hub.1) hS.lies least_fits (by simp))
   obtain⟨p0,p1⟩:=cr2 wr lo hS.box
   simp only[gq] at p0 p1
   have HSF:=Lib.hid hS
   have HUB:=Lib.hid hub
   clear hS hub HE HC HUP HS hline e00 e0
   go_upto_region 12 with(go_at_call 11;refine HRT.out.mono ?_;rintro e w5 ⟨hb5,rfl⟩)
   have HS5:=Lib.hid (HSF.out.under hb5)
   have HB5:=Lib.hid (HUB.out.1.trans (hb5.mono HUB.out.1.size))
   have hr5:=(hb5.block w.heap.size (Array.getElem?_eq_some_iff.1 HUB.out.2).1).trans HUB.out.2
   obtain⟨z0,z1⟩:=cr2 w5 lo HS5.out.box
   obtain⟨c0,c1⟩:=cr2 w5 _ hr5
   have f0:=frozen_of_row w5 _ 0 _ _ hr5
   have f1:=frozen_of_row w5 _ 1 _ _ hr5
   simp only[gq] at z0 z1 c0 c1
   clear p0 p1 hb5 HSF HUB HRT
   have hne:w.heap.size≠lo:=by omega
   go_wp2_with fail
   have hset:∀k,k≠w.heap.size→∀(v0 v1:Value),((w5.setCell ⟨w.heap.size,0,none⟩ v0).setCell ⟨w.heap.size,1,none⟩ v1).heap[k]? =w5.heap[k]? :=by
    intro k hk v0 v1
    iterate 2 rw[Below.heap_setCell _ _ _ _ hk]
   refine bodyPost_ret (read_result _ _ w.heap.size (.slice (some ⟨g,0,none⟩) 1 cap) (.slice ga 0 gc) rfl rfl ?_ ?_) rfl ⟨_,rfl, ?_, ?_⟩
   iterate 2 (·first|(simp[c0,c1];done)|(go_simp;done))
   ·exact lies_own (own_keep HS5.out.fns fun k h=>hset k (by have:=(HS5.out.fns.lt k h).1;omega) _ _) (own_keep HS5.out.ins fun k h=>hset k (by have:=(HS5.out.ins.lt k h).1;omega) _ _)
   ·exact(HB5.out.setCell (Nat.le_refl _) _).setCell (Nat.le_refl _) _
theorem isWrongC (p:Value) (w:World):Sem.run Tryz.prog (Instr.typeAssert (.iface 42 p) 38 42 true) w= .ok (.tuple #[p,.bool true]) w:=by kernel_rfl
theorem eql_wrong (c a c' a':Int) (s s':ByteArray) (w:World):(binOp .eql 46 (.agg #[.int .i64 c,.int .i64 a,.string s]) (.agg #[.int .i64 c',.int .i64 a',.string s'])).run Tryz.prog w= .ok (.bool (c==c'&&(a==a'&&decide (s=s')))) w:=by
 have hS:Tryz.prog.underlying 46=some (.struct (Tryz.prog.fieldsOf 46)):=by kernel_rfl
 have hp:Tryz.prog.stoodInHeld 46=false:=by kernel_rfl
 rw[run_eql_struct,show(10000:Nat)=9999+1 from rfl,run_equalIn_agg w 9999 _ _ _ hS hp]
 simp only[Program.fieldsOf,Tryz.underlying46]
 go_simp
 have ht:s.toList=s'.toList ↔ s=s':=⟨toList_inj,congrArg _⟩
 by_cases h1:c=c'<;>by_cases h2:a=a'<;>by_cases h3:s=s'<;>simp[ht,h1,h2,h3]
theorem told_wrong {w:World} {b:Nat} {c a:Int} {i:Option Int} (h:WrAt w b c a i) (c' a':Int) (s':ByteArray) (h0:c'≠0):
  Calls Tryz.prog 17 #[.iface 42 (.pointer (some ⟨b,0,none⟩)),.agg #[.int .i64 c',.int .i64 a',.string s']] w fun e w'=>e= .returned (.bool (c==c'&&(a==a'&&decide (insName i=s'))))∧Below w.heap.size w w':=by
 obtain⟨s,hs⟩:∃s,insName i=s:=⟨_,rfl⟩
 unfold WrAt at h
 rw[hs] at h⊢
 have hb:=(Array.getElem?_eq_some_iff.1 h).1
 have hB:Below w.heap.size w (w.alloc (.cells #[.int .i64 c',.int .i64 a',.string s'] 46 (0,0))):=(Below.refl _ _).alloc (Nat.le_refl _) _
 have h1:=(heap_alloc_old w (.cells #[.int .i64 c',.int .i64 a',.string s'] 46 (0,0)) hb).trans h
 have h2:=heap_alloc_new w (.cells #[.int .i64 c',.int .i64 a',.string s'] 46 (0,0))
 have e0:(c'==0)=false:=by simp[h0]
 have heq:=eql_wrong c a c' a' s s'
 have hta:=isWrongC
 obtain⟨R,hR⟩:∃R,(c==c'&&(a==a'&&decide (s=s')))=R:=⟨_,rfl⟩
 rw[hR] at heq⊢
 have HB:=Lib.hid hB
 clear hR h hs h0 hB
 go_enter Tryz.func17,Tryz.ntmps17
 go_upto_region 4 with fail
 obtain⟨nb,hnb⟩:∃nb,w.heap.size=nb:=⟨_,rfl⟩
 obtain⟨W1,hW1⟩:∃W1,w.alloc (.cells #[.int .i64 c',.int .i64 a',.string s'] 46 (0,0))=W1:=⟨_,rfl⟩
 simp only[hnb,hW1] at h1 h2 HB⊢
 have t0:∀k,(W1.drewN k).cell? ⟨b,0,none⟩=some (.int .i64 c):=fun _=>cell_of_row W1 b 0 _ _ _ h1
 have t1:∀k,(W1.drewN k).cell? ⟨b,1,none⟩=some (.int .i64 a):=fun _=>cell_of_row W1 b 1 _ _ _ h1
 have t2:∀k,(W1.drewN k).cell? ⟨b,2,none⟩=some (.string s):=fun _=>cell_of_row W1 b 2 _ _ _ h1
 have u0:∀k,(W1.drewN k).cell? ⟨nb,0,none⟩=some (.int .i64 c'):=fun _=>cell_of_row W1 nb 0 _ _ _ h2
 have u1:∀k,(W1.drewN k).cell? ⟨nb,1,none⟩=some (.int .i64 a'):=fun _=>cell_of_row W1 nb 1 _ _ _ h2
 have u2:∀k,(W1.drewN k).cell? ⟨nb,2,none⟩=some (.string s'):=fun _=>cell_of_row W1 nb 2 _ _ _ h2
 clear h1 h2 hW1
 go_quiet (fail)
 go_wp2_with fail
 go_ret
 exact⟨rfl,by rw[hnb];exact under_drew HB.out _⟩
theorem prog_result (tmps:Array Value) (W:World) (g:Nat) (v0 v1:Value) (h2:tmps.getD 0 undef= .pointer (some ⟨g,0,none⟩)) (e0:W.cell? ⟨g,0,none⟩=some v0) (e1:W.cell? ⟨g,1,none⟩=some v1):
  (results Tryz.f29 tmps).run Tryz.prog W= .ok (.agg #[v0,v1]) W:=by
 have h2':tmps[0]?.getD undef= .pointer (some ⟨g,0,none⟩):=by simpa using h2
 have hres:Tryz.f29.results= #[ResultVar.cell 0 27]:=rfl
 simp[results,go_sem,h2',e0,e1]
theorem row_of_block {W:World} {b:Nat} {cs:List Value} {t:TypeId} {fr:Nat×Nat} (h:W.heap[b]? =some (.cells cs.toArray t fr)):RowIs W W.heap.size (some ⟨b,0,none⟩) cs:=
 .inr ⟨b,0,rfl,(Array.getElem?_eq_some_iff.1 h).1,fun j v hj=>by rw[Nat.zero_add,cell_of_row W b j _ _ _ h,List.getElem?_toArray,hj]⟩
theorem one_lies {W:World} {fb cb n:Nat} {f:Cf} {cs1 cs2:Array Value} (hn:f.code.length=n) (ht:f.taken=[]) (e1:cs1=(fnCells (f,⟨none,0,some ⟨cb,0,none⟩,n⟩)).toArray) (e2:cs2=(f.code.flatMap insCells).toArray) (hf:W.heap[fb]? =some (.cells cs1 33 (0,0))) (hc:W.heap[cb]? =some (.cells cs2 36 (0,0))):
  LiesC W W.heap.size ⟨[f],[]⟩ (.agg #[.slice (some ⟨fb,0,none⟩) 1 1,.slice none 0 0]):=by
 subst e1 e2 hn
 refine⟨some ⟨fb,0,none⟩,1,none,0,[(f,⟨none,0,some ⟨cb,0,none⟩,f.code.length⟩)],rfl,rfl, ?_,.inl rfl,Nat.le_refl _,Nat.le_refl _,fun x hx=> ?_⟩
 ·rw[List.flatMap_cons,List.flatMap_nil,List.append_nil]
  exact row_of_block hf
 rw[List.mem_singleton.1 hx]
 exact⟨.inl (by rw[ht];rfl),row_of_block hc,by rw[ht];exact Nat.le_refl _,Nat.le_refl _⟩
theorem least_any (w:World):Calls Tryz.prog 29 #[] w fun e w'=>∃v,e= .returned v∧LiesC w' w'.heap.size least v∧Below w.heap.size w w':=by
 go_enter Tryz.func29,Tryz.ntmps29
 go_wp2_with fail
 have h0:∀A B C:Obj,(((w.alloc A).alloc B).alloc C).heap[w.heap.size]? =some A∧(((w.alloc A).alloc B).alloc C).heap[w.heap.size+1]? =some B∧(((w.alloc A).alloc B).alloc C).heap[w.heap.size+1+1]? =some C∧Below w.heap.size w (((w.alloc A).alloc B).alloc C):=by
  intro A B C
  have s1:(w.alloc A).heap.size=w.heap.size+1:=World.size_alloc _ _
  have s2:((w.alloc A).alloc B).heap.size=w.heap.size+1+1:=by rw[World.size_alloc,s1]
  have n1:=heap_alloc_new (w.alloc A) B
  have n2:=heap_alloc_new ((w.alloc A).alloc B) C
  rw[s1] at n1
  rw[s2] at n2
  refine⟨(heap_alloc_old _ _ (by omega)).trans ((heap_alloc_old _ _ (by omega)).trans (heap_alloc_new w A)),(heap_alloc_old _ _ (by omega)).trans n1,n2, ?_⟩
  exact(((Below.refl _ _).alloc (Nat.le_refl _) A).alloc (by omega) B).alloc (by omega) C
 obtain⟨h1,h2,h3,h4⟩:=h0 (.cells #[.slice (some ⟨w.heap.size+1+1,0,none⟩) 1 1,.slice none 0 0] 27 (0,0)) (.cells #[.int .i64 7,.int .i64 0,.int .i64 0,.string ⟨#[]⟩,.int .i64 0,.int .i64 50,.int .i64 0,.int .i64 0,.string ⟨#[]⟩,.int .i64 0] 36 (0,0)) (.cells #[.string ⟨#[]⟩,.int .i64 0,.int .i64 1,.slice none 0 0,.int .i64 (-1),.slice (some ⟨w.heap.size+1,0,none⟩) 2 2] 33 (0,0))
 obtain⟨c0,c1⟩:=cr2 _ w.heap.size h1
 simp only[gq] at c0 c1
 exact bodyPost_ret (prog_result _ _ w.heap.size _ _ rfl c0 c1) rfl ⟨_,rfl,one_lies (f:=leastF) rfl rfl rfl rfl h3 h2,h4⟩
def partsN (l:List Cf):Nat:=l.foldr (fun f n=>f.code.length+f.taken.length+n) 0
theorem partsN_cons (f:Cf) (l:List Cf):partsN (f::l)=f.code.length+f.taken.length+partsN l:=rfl
theorem wide_any {w:World} {p:Cp} {v:Value} (h:LiesC w w.heap.size p v) (hok:CpOk p):
  Calls Tryz.prog 14 #[v] w fun e w'=>∃b,e= .returned (.bool b)∧(b=false→p.globals.length+p.funcs.length+partsN p.funcs≤90000)∧Below w.heap.size w w':=by
 obtain⟨n,m,fa,fc,ga,gc,xs,rfl,_,_,hp⟩:=h.pieces
 have hn47:n≤140737488351232:=hp.fn▸hok.1
 have hm47:m≤140737488351232:=hp.gn▸hok.2.1
 rw[hp.fn,hp.gn]
 have hW:Below w.heap.size w (w.alloc (.cells #[.slice fa n fc,.slice ga m gc] 27 (0,0))):=(Below.refl _ _).alloc (Nat.le_refl _) _
 have hb0:=heap_alloc_new w (.cells #[.slice fa n fc,.slice ga m gc] 27 (0,0))
 have HP:=Lib.hid hp
 have HOK:=Lib.hid hok
 have HN:Hid (partsN p.funcs=partsN (p.funcs.drop 0)):=Lib.hid rfl
 clear h hp hok
 go_enter Tryz.func14,Tryz.ntmps14
 go_wp2_with fail
 obtain⟨pb,hpb⟩:∃pb,w.heap.size=pb:=⟨_,rfl⟩
 obtain⟨W1,hW1⟩:∃W1,w.alloc (.cells #[.slice fa n fc,.slice ga m gc] 27 (0,0))=W1:=⟨_,rfl⟩
 simp only[hW1,hpb] at hW hb0⊢
 obtain⟨p0,p1⟩:=cr2 W1 pb hb0
 simp only[gq] at p0 p1
 have HW:=Lib.hid hW
 have HP0:=Lib.hid p0
 clear hW hW1 hb0 p0 p1
 go_loopw [3,4] (fun s i wr=>∃k t:Nat,i= .int .i64 k∧k≤n∧s= .int .i64 t∧t≤90000+281474976702464∧Hid (Below W1.heap.size W1 wr)∧Hid (t+partsN (p.funcs.drop k)=m+n+partsN p.funcs)) (fun _ i _=>n-(intOf i).toNat)
 case atStart=>exact⟨0,m+n,rfl,Nat.zero_le _,by simp,by omega,Lib.hid (Below.refl _ _),Lib.hid (by simp)⟩
 case round=>
  obtain⟨k,t,rfl,hk,rfl,ht,HB,HQ⟩:=hrel
  have P0:=old_cell HP0.out HB.out
  have P0':=P0 0
  simp only[World.drewN_zero] at P0'
  by_cases hlt:k<n
  ·by_cases hle:t≤90000
   ·obtain⟨x,hx⟩:∃x,p.funcs[k]? =some x:=⟨_,List.getElem?_eq_getElem (by rw[HP.out.fn];exact hlt)⟩
    obtain⟨g,o,fv,rfl,hlx,x0,x1,x2,x3,x4,x5⟩:=HP.out.func hx
    have hbw:Below w.heap.size w wr:=by
     have:=HW.out.trans (HB.out.mono (by have:=HW.out.size;omega))
     rw[hpb]
     exact this
    have c3:=old_cell x3 hbw
    have c5:=old_cell x5 hbw
    have hxo:=HOK.out.2.2.1 x (List.mem_of_getElem? hx)
    have hq:=HQ.out
    rw[drop_cons hx,partsN_cons] at hq
    obtain⟨tn,htn⟩:∃tn,x.taken.length=tn:=⟨_,rfl⟩
    obtain⟨cn,hcn⟩:∃cn,x.code.length=cn:=⟨_,rfl⟩
    rw[htn] at c3 hq
    rw[hcn] at c5 hq
    have htb:tn≤140737488351232:=by rw[←htn];exact hxo.2.2.2.2.1
    have hcb:cn≤140737488351232:=by rw[←hcn];exact hxo.2.2.2.2.2.1
    have HQ2:Hid (t+cn+tn+partsN (p.funcs.drop (k+1))=m+n+partsN p.funcs):=Lib.hid (by omega)
    clear hx hlx x0 x1 x2 x3 x4 x5 hq hxo htn hcn hbw
    go_upto_region 5 with fail
    go_quiet (fail)
    go_wp2_with fail
    go_roundw
    case rel=>exact⟨k+1,t+cn+tn,by simp,by omega,by simp,by omega,Lib.hid (under_drew HB.out _),HQ2⟩
    case measure=>simp[intOf];omega
   ·go_wp2_with fail
    go_ret
    exact⟨_,rfl,fun h=>absurd h (by first|(simp;done)|(simp;omega)),by rw[hpb];exact HW.out.trans (HB.out.mono (by have:=HW.out.size;omega))⟩
  ·obtain rfl:k=n:=by omega
   have hq:=HQ.out
   rw[List.drop_of_length_le (by rw[HP.out.fn];exact Nat.le_refl _)] at hq
   have hq2:t=m+k+partsN p.funcs:=hq
   clear hq
   go_wp2_with fail
   go_ret
   exact⟨_,rfl,fun h=>by simp at h;omega,by rw[hpb];exact HW.out.trans (HB.out.mono (by have:=HW.out.size;omega))⟩
theorem LiesC.up {w W:World} {p:Cp} {v:Value} (h:LiesC w w.heap.size p v) (hb:Below w.heap.size w W):LiesC W W.heap.size p v:=(h.keep hb.block).more hb.size
def badF:Cf:=⟨⟨#[]⟩,0,0,[],-1,[⟨50,0,0,⟨#[]⟩,0⟩]⟩
theorem bad_plain:Plain ⟨[badF],[]⟩ badF:=by
 have hlen:badF.code.length=1:=rfl
 refine⟨⟨rfl,rfl,by rw[hlen];omega,by decide,by decide⟩,by kernel_rfl,by rw[hlen];omega,fun k x hx=> ?_,fun x hx=> ?_⟩
 ·rw[hlen]
  have hk:k<1:=(List.getElem?_eq_some_iff.1 hx).1
  match k,hk,hx with
  |0,_,hx=>
   obtain rfl:(⟨50,0,0,⟨#[]⟩,0⟩:Ci)=x:=Option.some.inj hx
   exact⟨⟨by kernel_rfl,by decide,by decide,by kernel_rfl,by kernel_rfl,by kernel_rfl,rfl,by kernel_rfl,by decide⟩,.inr (.inl rfl),⟨fun _ h=>absurd rfl h,fun h=>absurd h (by decide),fun h=>absurd h (by decide),by decide,by decide⟩⟩
 ·rw[List.mem_singleton.1 hx]
  exact counted_any _ (by decide) (by decide)
theorem bad_fits:fitsP badF.code=some 0:=by kernel_rfl
theorem okI0:okI 0:=⟨by decide,by decide⟩
theorem okI1:okI 1:=⟨by decide,by decide⟩
theorem okIm:okI (-1):=⟨by decide,by decide⟩
theorem least_ci (op:Int) (h:okI op):CiOk ⟨op,0,0,⟨#[]⟩,0⟩:=⟨h,okI0,okI0,okI0,by show(0:Nat)≤_;omega⟩
theorem least_cf:CfOk leastF:=by
 refine⟨by show(0:Nat)≤_;omega,okI0,okI1,okIm,by show(0:Nat)≤_;omega,by show(2:Nat)≤_;omega,fun t ht=>(nomatch ht),fun x hx=> ?_⟩
 rcases List.mem_cons.1 hx with rfl|hx
 ·exact least_ci 7 ⟨by decide,by decide⟩
 ·rw[List.mem_singleton.1 hx]
  exact least_ci 50 ⟨by decide,by decide⟩
theorem least_ok:CpOk least:=⟨by decide,by decide,fun f hf=>by rw[List.mem_singleton.1 hf];exact least_cf,fun s hs=>(nomatch hs)⟩
theorem ins0:insName (some 0)=⟨#[48]⟩:=by simp[insName,itoa_0]
theorem least_B:leastB=[71,67,48,49,0,2,0,0,2,0,1,4,14,0,0,0,0,100,0,0,0,0]:=rfl
theorem encode_least {w:World} (hG:Gc w) {v:Value} (hv:LiesC w w.heap.size least v):
  Calls Tryz.prog 12 #[v] w fun e w'=>e= .returned (.tuple #[.string ⟨⟨leastB⟩⟩,.nilIface])∧Below w.heap.size w w':=by
 have:=encode_plain least_plain hG hv least_fits least_cf (by rw[least_bytes];decide)
 rw[least_bytes] at this
 exact this
theorem list_least {w:World} (hG:Gc w) {v:Value} (hv:LiesC w w.heap.size least v):
  Calls Tryz.prog 13 #[v] w fun e w'=>e= .returned (.tuple #[.string ⟨⟨leastL⟩⟩,.nilIface])∧Below w.heap.size w w':=by
 have htx:∀x∈leastF.code,x.text=⟨#[]⟩:=by
  intro x hx
  rcases List.mem_cons.1 hx with rfl|hx
  ·rfl
  ·rw[List.mem_singleton.1 hx]
 have:=list_plain least_plain rfl rfl htx hG hv least_fits least_cf (by rw[least_lines];decide)
 rw[least_lines] at this
 exact this
structure KnAt (w W:World) (b:Nat) (v0 v1:Value):Prop where
 low:Below w.heap.size w W
 box:W.heap[b]? =some (.cells #[v0,v1] 27 (0,0))
 lies:LiesC W W.heap.size least (.agg #[v0,v1])
theorem KnAt.under {w W W':World} {b:Nat} {v0 v1:Value} (h:KnAt w W b v0 v1) (hb:Below W.heap.size W W'):KnAt w W' b v0 v1:=
 ⟨h.low.trans (hb.mono h.low.size),(hb.block b (Array.getElem?_eq_some_iff.1 h.box).1).trans h.box,h.lies.up hb⟩
theorem KnAt.new {w W:World} {v0 v1:Value} (hl:Below w.heap.size w W) (h:LiesC W W.heap.size least (.agg #[v0,v1])):KnAt w (W.alloc (.cells #[v0,v1] 27 (0,0))) W.heap.size v0 v1:=
 ⟨hl.alloc hl.size _,heap_alloc_new _ _,h.up ((Below.refl _ _).alloc (Nat.le_refl _) _)⟩
theorem KnAt.alloc {w W:World} {b:Nat} {v0 v1:Value} (h:KnAt w W b v0 v1) (o:Obj):KnAt w (W.alloc o) b v0 v1:=h.under ((Below.refl _ _).alloc (Nat.le_refl _) _)
theorem KnAt.cs {w W:World} {b:Nat} {v0 v1:Value} (h:KnAt w W b v0 v1):W.cell? ⟨b,0,none⟩=some v0∧W.cell? ⟨b,1,none⟩=some v1:=by
 obtain⟨c0,c1⟩:=cr2 W b h.box
 simp only[gq] at c0 c1
 exact⟨c0,c1⟩
theorem same_least {W:World} {u v:Value} (h:LiesC W W.heap.size least u) (h':LiesC W W.heap.size least v):Calls Tryz.prog 25 #[u,v] W fun e w'=>e= .returned (.bool true)∧Below W.heap.size W w':=by
 have:=same13_any h h' least_ok
 rw[sameC_self] at this
 exact this
theorem sameC_least {W:World} {u v:Value} (h:LiesC W W.heap.size least u) (h':LiesC W W.heap.size least v):Calls Tryz.prog 30 #[u,v] W fun e w'=>e= .returned (.bool true)∧Below W.heap.size W w':=by
 have:=sameC_any h h' least_ok
 rw[sameC_self] at this
 exact this
theorem known_any {w:World} (hG:Gc w):Calls Tryz.prog 8 #[] w fun e w'=>e= .returned (.bool true)∧Below w.heap.size w w':=by
 have HG:=Lib.hid hG
 clear hG
 go_enter Tryz.func8,Tryz.ntmps8
 go_upto_region 2 with(go_at_call 29;refine(least_any _).mono ?_;rintro e w1 ⟨v1,rfl,hl1,hb1⟩;obtain⟨n1,m1,fa1,fc1,ga1,gc1,xs1,rfl,_,_,_⟩:=hl1.pieces)
 have HK:=Lib.hid (KnAt.new hb1 hl1)
 obtain⟨pb,hpb⟩:∃pb,w1.heap.size=pb:=⟨_,rfl⟩
 obtain⟨W1,hW1⟩:∃W1,w1.alloc (.cells #[.slice fa1 n1 fc1,.slice ga1 m1 gc1] 27 (0,0))=W1:=⟨_,rfl⟩
 simp only[hpb,hW1] at HK⊢
 obtain⟨c0,c1⟩:=HK.out.cs
 clear hl1 hb1 hpb hW1
 go_upto_region 3 with(go_at_call 11;refine(right_plain least_plain (HG.out.up HK.out.low) HK.out.lies least_fits (by simp)).mono ?_;rintro e w2 ⟨hb2,rfl⟩;have HK2:=Lib.hid (HK.out.under hb2);obtain⟨d0,d1⟩:=HK2.out.cs;clear hb2)
 clear c0 c1 HK
 go_upto_region 4 with(go_at_call 12;refine(encode_least (HG.out.up HK2.out.low) HK2.out.lies).mono ?_;rintro e w3 ⟨rfl,hb3⟩;rw[least_B];have HK3:=Lib.hid (HK2.out.under hb3);clear hb3)
 clear d0 d1 HK2
 go_upto_region 5 with(go_at_call 24;refine(decode_least (HG.out.up HK3.out.low)).mono ?_;rintro e w4 ⟨q,rfl,hq4,hb4⟩;obtain⟨n2,m2,fa2,fc2,ga2,gc2,xs2,rfl,_,_,_⟩:=hq4.pieces)
 have HK4:=Lib.hid (HK3.out.under hb4)
 have HQ:=Lib.hid (KnAt.new HK4.out.low hq4)
 have HK5:=Lib.hid (HK4.out.alloc (.cells #[.slice fa2 n2 fc2,.slice ga2 m2 gc2] 27 (0,0)))
 obtain⟨qb,hqb⟩:∃qb,w4.heap.size=qb:=⟨_,rfl⟩
 obtain⟨W5,hW5⟩:∃W5,w4.alloc (.cells #[.slice fa2 n2 fc2,.slice ga2 m2 gc2] 27 (0,0))=W5:=⟨_,rfl⟩
 simp only[hqb,hW5] at HQ HK5⊢
 obtain⟨c0,c1⟩:=HK5.out.cs
 clear hq4 hb4 hqb hW5 HK3 HK4
 go_upto_region 6 with(go_at_call 13;refine(list_least (HG.out.up HK5.out.low) HK5.out.lies).mono ?_;rintro e w6 ⟨rfl,hb6⟩;have HK6:=Lib.hid (HK5.out.under hb6);have HQ6:=Lib.hid (HQ.out.under hb6);clear hb6)
 clear c0 c1 HK5 HQ
 go_upto_region 7 with(go_at_call 28;refine(read_least (HG.out.up HK6.out.low)).mono ?_;rintro e w7 ⟨r,rfl,hr7,hb7⟩;obtain⟨n3,m3,fa3,fc3,ga3,gc3,xs3,rfl,_,_,_⟩:=hr7.pieces)
 have HK7:=Lib.hid (HK6.out.under hb7)
 have HQ7:=Lib.hid (HQ6.out.under hb7)
 have HR:=Lib.hid (KnAt.new HK7.out.low hr7)
 have HK8:=Lib.hid (HK7.out.alloc (.cells #[.slice fa3 n3 fc3,.slice ga3 m3 gc3] 27 (0,0)))
 have HQ8:=Lib.hid (HQ7.out.alloc (.cells #[.slice fa3 n3 fc3,.slice ga3 m3 gc3] 27 (0,0)))
 obtain⟨rb,hrb⟩:∃rb,w7.heap.size=rb:=⟨_,rfl⟩
 obtain⟨W8,hW8⟩:∃W8,w7.alloc (.cells #[.slice fa3 n3 fc3,.slice ga3 m3 gc3] 27 (0,0))=W8:=⟨_,rfl⟩
 simp only[hrb,hW8] at HR HK8 HQ8⊢
 clear hr7 hb7 hrb hW8 HK6 HQ6 HK7 HQ7
 have hB9:∀A B:Obj,Below W8.heap.size W8 ((W8.alloc A).alloc B):=fun A B=>((Below.refl _ _).alloc (Nat.le_refl _) A).alloc (by simp) B
 have HB9:=Lib.hid hB9
 have hbad:LiesC ((W8.alloc (.cells #[.int .i64 50,.int .i64 0,.int .i64 0,.string ⟨#[]⟩,.int .i64 0] 36 (0,0))).alloc (.cells #[.string ⟨#[]⟩,.int .i64 0,.int .i64 0,.slice none 0 0,.int .i64 (-1),.slice (some ⟨W8.heap.size,0,none⟩) 1 1] 33 (0,0))) ((W8.alloc (.cells #[.int .i64 50,.int .i64 0,.int .i64 0,.string ⟨#[]⟩,.int .i64 0] 36 (0,0))).alloc (.cells #[.string ⟨#[]⟩,.int .i64 0,.int .i64 0,.slice none 0 0,.int .i64 (-1),.slice (some ⟨W8.heap.size,0,none⟩) 1 1] 33 (0,0))).heap.size ⟨[badF],[]⟩ (.agg #[.slice (some ⟨W8.heap.size+1,0,none⟩) 1 1,.slice none 0 0]):=by
  have n1:=heap_alloc_new W8 (.cells #[.int .i64 50,.int .i64 0,.int .i64 0,.string ⟨#[]⟩,.int .i64 0] 36 (0,0))
  have n2:=heap_alloc_new (W8.alloc (.cells #[.int .i64 50,.int .i64 0,.int .i64 0,.string ⟨#[]⟩,.int .i64 0] 36 (0,0))) (.cells #[.string ⟨#[]⟩,.int .i64 0,.int .i64 0,.slice none 0 0,.int .i64 (-1),.slice (some ⟨W8.heap.size,0,none⟩) 1 1] 33 (0,0))
  rw[World.size_alloc] at n2
  exact one_lies (f:=badF) rfl rfl rfl rfl n2 ((heap_alloc_old _ _ (by simp)).trans n1)
 have HBAD:=Lib.hid hbad
 clear hB9 hbad
 go_upto_region 8 with(go_at_call 11;refine(right_plain bad_plain (HG.out.up (HK8.out.low.trans ((HB9.out _ _).mono HK8.out.low.size))) HBAD.out bad_fits (by intro k hk;obtain rfl:=Option.some.inj hk;exact⟨by decide,by decide⟩)).mono ?_;rintro e w9 ⟨hb9,jb,rfl,hjb,hwr⟩)
 have hb9':=(HB9.out _ _).trans (hb9.mono (HB9.out _ _).size)
 have HK9:=Lib.hid (HK8.out.under hb9')
 have HQ9:=Lib.hid (HQ8.out.under hb9')
 have HR9:=Lib.hid (HR.out.under hb9')
 have HWR:=Lib.hid hwr
 clear hb9 hb9' hwr HK8 HQ8 HR HBAD HB9 hjb
 go_upto_region 9 with(go_at_call 17;refine(told_wrong HWR.out 130 0 ⟨#[48]⟩ (by decide)).mono ?_;rintro e w10 ⟨rfl,hb10⟩;rw[ins0])
 have HK10:=Lib.hid (HK9.out.under hb10)
 have HQ10:=Lib.hid (HQ9.out.under hb10)
 have HR10:=Lib.hid (HR9.out.under hb10)
 obtain⟨c0,c1⟩:=HK10.out.cs
 obtain⟨d0,d1⟩:=HQ10.out.cs
 clear hb10 HK9 HQ9 HR9 HWR
 obtain⟨g0,g1⟩:=HR10.out.cs
 have hw10:=HK10.out.low
 go_wp2_with (first
  |(go_at_call 25;with_reducible refine(same_least HK10.out.lies HQ10.out.lies).mono ?_;rintro e w11 ⟨rfl,hb11⟩;have HK11:=Lib.hid (HK10.out.under hb11);have HQ11:=Lib.hid (HQ10.out.under hb11);have HR11:=Lib.hid (HR10.out.under hb11);obtain⟨k0,k1⟩:=HK11.out.cs;obtain⟨l0,l1⟩:=HR11.out.cs)
  |(go_at_call 25;with_reducible refine(same_least HK11.out.lies HR11.out.lies).mono ?_;rintro e w12 ⟨rfl,hb12⟩;have HK12:=Lib.hid (HK11.out.under hb12);have HQ12:=Lib.hid (HQ11.out.under hb12);obtain⟨m0,m1⟩:=HK12.out.cs;obtain⟨o0,o1⟩:=HQ12.out.cs)
  |(go_at_call 30;with_reducible refine(sameC_least HK12.out.lies HQ12.out.lies).mono ?_;rintro e w13 ⟨rfl,hb13⟩))
 go_ret
 exact⟨rfl,HK12.out.low.trans (hb13.mono HK12.out.low.size)⟩
theorem SkAt.setF {lo:Nat} {w W:World} {sb:Nat} {F:Nat→Prop} {S:List (List UInt8)} (h:SkAt lo w W sb F S) {b:Nat} (hb:F b) (hlo:lo≤b) (i:Nat) (v:Value):SkAt lo w (W.setCell ⟨b,i,none⟩ v) sb F S:=by
 obtain⟨g0,g1,g2,g3,c0,c1,c2,c3,tops,bel,hig,abv,hR,hT,⟨f,f0,f1,f2,f3⟩,hF⟩:=h
 have hk:∀k,k≠b→(W.setCell ⟨b,i,none⟩ v).heap[k]? =W.heap[k]? :=fun k hk=>Below.heap_setCell _ _ _ _ hk
 have hn:∀k,¬F k→k≠b:=fun k h e=>h (by rw[e];exact hb)
 exact⟨g0,g1,g2,g3,c0,c1,c2,c3,tops,bel,hig,abv,⟨hR.low.setCell hlo v,hR.los,(hk sb (hn sb f)).trans hR.box,own_keepG hR.o0 (hk g0 (hn g0 f0)),own_keepG hR.o1 (hk g1 (hn g1 f1)),own_keepG hR.o2 (hk g2 (hn g2 f2)),own_keepG hR.o3 (hk g3 (hn g3 f3)),hR.ds,hR.d⟩,hT,⟨f,f0,f1,f2,f3⟩,fun k hk=>by rw[World.size_setCell];exact hF k hk⟩
theorem SkAt.grow {lo:Nat} {w W W':World} {sb:Nat} {F G:Nat→Prop} {S:List (List UInt8)} (h:SkAt lo w W sb F S) (hb:Below W.heap.size W W') (hG:∀k,G k→F k∨W.heap.size≤k∨k<lo) (hl:∀k,G k→k<W'.heap.size):SkAt lo w W' sb G S:=by
 obtain⟨g0,g1,g2,g3,c0,c1,c2,c3,tops,bel,hig,abv,hR,hT,⟨f,f0,f1,f2,f3⟩,hF⟩:=h
 obtain⟨l,⟨a0,l0⟩,⟨a1,l1⟩,⟨a2,l2⟩,a3,l3⟩:=hR.lts
 have key:∀k,¬F k→lo≤k→k<W.heap.size→¬G k:=fun k h1 h0 h2 h3=>by
  rcases hG k h3 with e|e|e
  ·exact h1 e
  ·omega
  ·omega
 exact⟨g0,g1,g2,g3,c0,c1,c2,c3,tops,bel,hig,abv,hR.under hb,hT,⟨key sb f hR.los l,key g0 f0 a0 l0,key g1 f1 a1 l1,key g2 f2 a2 l2,key g3 f3 a3 l3⟩,hl⟩
def FtF (hb db br bp:Nat) (k:Nat):Prop:=k=hb∨k=db∨k=br∨k=bp
structure FtS (w w0 W:World) (sb hb db br bp n:Nat) (pc:Array Value) (S:List (List UInt8)) (hs ds:List Int):Prop where
 sk:SkAt w0.heap.size w0 W sb (FtF hb db br bp) S
 lw:Below w.heap.size w w0
 hp:W.heap[bp]? =some (.cells pc 27 (0,0))
 hr:W.heap[br]? =some (.cells #[.int .i64 0,.int .i64 0,.string ⟨#[]⟩] 46 (0,0))
 ord:w.heap.size≤br
 oh:W.ownsRow 0 3 1 (.slice (some ⟨hb,0,none⟩) n n) n (intsV hs)
 od:W.ownsRow 0 3 1 (.slice (some ⟨db,0,none⟩) n n) n (intsV ds)
 lo:w0.heap.size≤hb∧w0.heap.size≤db
 ne:hb≠db∧hb≠br∧hb≠bp∧db≠br∧db≠bp
section
variable {w w0 W W':World} {sb hb db br bp n:Nat} {pc:Array Value} {S S':List (List UInt8)} {hs ds:List Int}
theorem FtS.low (h:FtS w w0 W sb hb db br bp n pc S hs ds):Below w.heap.size w W:=by
 obtain⟨_,_,_,_,_,_,_,_,_,_,_,_,hR,_,_,_⟩:=h.sk
 exact h.lw.trans (hR.low.mono h.lw.size)
theorem FtS.bd (h:FtS w w0 W sb hb db br bp n pc S hs ds):BdS w W bp br pc:=⟨h.low,h.hp,h.hr,h.ord⟩
theorem FtS.move (h:FtS w w0 W sb hb db br bp n pc S hs ds) (hk:SkAt w0.heap.size w0 W' sb (FtF hb db br bp) S') (hF:∀k,FtF hb db br bp k→W'.heap[k]? =W.heap[k]?):FtS w w0 W' sb hb db br bp n pc S' hs ds:=
 ⟨hk,h.lw,(hF bp (.inr (.inr (.inr rfl)))).trans h.hp,(hF br (.inr (.inr (.inl rfl)))).trans h.hr,h.ord,own_keepG h.oh (hF hb (.inl rfl)),own_keepG h.od (hF db (.inr (.inl rfl))),h.lo,h.ne⟩
theorem FtS.under (h:FtS w w0 W sb hb db br bp n pc S hs ds) (hb':Below W.heap.size W W'):FtS w w0 W' sb hb db br bp n pc S hs ds:=by
 have h2:=h.sk
 obtain⟨_,_,_,_,_,_,_,_,_,_,_,_,_,_,_,hF⟩:=h2
 exact h.move (h.sk.under hb') fun k hk=>hb'.block k (hF k hk)
theorem FtS.setH (h:FtS w w0 W sb hb db br bp n pc S hs ds) (i:Nat) (x:Int):FtS w w0 (W.setCell ⟨hb,i,none⟩ (.int .i64 x)) sb hb db br bp n pc S (hs.set i x) ds:=by
 have hk:∀k,k≠hb→(W.setCell ⟨hb,i,none⟩ (.int .i64 x)).heap[k]? =W.heap[k]? :=fun k hk=>Below.heap_setCell _ _ _ _ hk
 obtain⟨n1,n2,n3,_⟩:=h.ne
 exact⟨h.sk.setF (.inl rfl) h.lo.1 i _,h.lw,(hk bp n3.symm).trans h.hp,(hk br n2.symm).trans h.hr,h.ord,own_put h.oh i x,own_keepG h.od (hk db n1.symm),h.lo,h.ne⟩
theorem FtS.setD (h:FtS w w0 W sb hb db br bp n pc S hs ds) (i:Nat) (x:Int):FtS w w0 (W.setCell ⟨db,i,none⟩ (.int .i64 x)) sb hb db br bp n pc S hs (ds.set i x):=by
 have hk:∀k,k≠db→(W.setCell ⟨db,i,none⟩ (.int .i64 x)).heap[k]? =W.heap[k]? :=fun k hk=>Below.heap_setCell _ _ _ _ hk
 obtain⟨n1,n2,n3,n4,n5⟩:=h.ne
 exact⟨h.sk.setF (.inr (.inl rfl)) h.lo.2 i _,h.lw,(hk bp n5.symm).trans h.hp,(hk br n4.symm).trans h.hr,h.ord,own_keepG h.oh (hk hb n1),own_put h.od i x,h.lo,h.ne⟩
theorem FtS.has (h:FtS w w0 W sb hb db br bp n pc S hs ds) {i:Nat} {x:Int} (hi:hs[i]? =some x):W.cell? ⟨hb,i,none⟩=some (.int .i64 x)∧W.frozen? ⟨hb,i,none⟩=false:=own_at h.oh hi
theorem FtS.done (h:FtS w w0 W sb hb db br bp n pc S hs ds) {i:Nat} {x:Int} (hi:ds[i]? =some x):W.cell? ⟨db,i,none⟩=some (.int .i64 x)∧W.frozen? ⟨db,i,none⟩=false:=own_at h.od hi
theorem FtS.lens (h:FtS w w0 W sb hb db br bp n pc S hs ds):hs.length=n∧ds.length=n:=by
 have h1:=h.oh.1
 have h2:=h.od.1
 unfold intsV at h1 h2
 rw[List.length_map] at h1 h2
 omega
theorem SkAt.high {lo:Nat} {F:Nat→Prop} (h:SkAt lo w W sb F S) {k:Nat} {s:List UInt8} (hk:S[k]? =some s):∃g c,W.cell? ⟨sb,2,none⟩=some (.slice (some ⟨g,0,none⟩) S.length c)∧W.cell? ⟨g,k,none⟩=some (.int .i64 (s.length:Int)):=by
 obtain⟨g0,g1,g2,g3,c0,c1,c2,c3,tops,bel,hig,abv,hR,hT,_,_⟩:=h
 exact⟨g2,c2,hR.bx.2.2.1,(own_at hR.o2 (hT.high k s hk)).1⟩
theorem SkAt.highs {lo:Nat} {F:Nat→Prop} (h:SkAt lo w W sb F S):∃g c,W.cell? ⟨sb,2,none⟩=some (.slice (some ⟨g,0,none⟩) S.length c)∧∀(k:Nat) (s:List UInt8),S[k]? =some s→k<S.length∧W.cell? ⟨g,k,none⟩=some (.int .i64 (s.length:Int)):=by
 obtain⟨g0,g1,g2,g3,c0,c1,c2,c3,tops,bel,hig,abv,hR,hT,_,_⟩:=h
 exact⟨g2,c2,hR.bx.2.2.1,fun k s hk=>⟨(List.getElem?_eq_some_iff.1 hk).1,(own_at hR.o2 (hT.high k s hk)).1⟩⟩
theorem SkAt.inj {lo:Nat} {F:Nat→Prop} (h:SkAt lo w W sb F S) {i j:Nat} {s:List UInt8} (hi:S[i]? =some s) (hj:S[j]? =some s):i=j:=by
 obtain⟨g0,g1,g2,g3,c0,c1,c2,c3,tops,bel,hig,abv,hR,hT,_,_⟩:=h
 exact hT.inj i j s hi hj
end
def HasR (S:List (List UInt8)) (hs:List Int) (a:List (Option (List UInt8))) (n:Nat):Prop:=∀i,i<n→∃x,hs[i]? =some x∧Idx S x (a.getD i none)
def DonR (ds:List Int) (d:List Bool) (n:Nat):Prop:=d.length=n∧∀i,i<n→∃x,ds[i]? =some x∧((x=0∧d.getD i false=false)∨(x=1∧d.getD i false=true))
theorem Idx.pre {S S':List (List UInt8)} {x:Int} {o:Option (List UInt8)} (h:Idx S x o) (hp:S<+:S'):Idx S' x o:=by
 cases o with
 |none=>exact h
 |some t=>
  obtain⟨j,e,hj⟩:=h
  exact⟨j,e,pre_get hp hj⟩
theorem HasR.pre {S S':List (List UInt8)} {hs:List Int} {a:List (Option (List UInt8))} {n:Nat} (h:HasR S hs a n) (hp:S<+:S'):HasR S' hs a n:=fun i hi=>by
 obtain⟨x,h1,h2⟩:=h i hi
 exact⟨x,h1,h2.pre hp⟩
theorem HasR.set {S:List (List UInt8)} {hs:List Int} {a:List (Option (List UInt8))} {n k:Nat} (h:HasR S hs a n) (hl:hs.length=n) (hk:k<n) (hka:k<a.length) {x:Int} {t:List UInt8} (hx:Idx S x (some t)):HasR S (hs.set k x) (a.set k (some t)) n:=fun i hi=>by
 by_cases e:k=i
 ·subst e
  exact⟨x,by rw[List.getElem?_set,if_pos rfl,if_pos (by omega)],by rw[List.getD_eq_getElem?_getD,List.getElem?_set,if_pos rfl,if_pos hka];exact hx⟩
 ·obtain⟨y,h1,h2⟩:=h i hi
  exact⟨y,by rw[List.getElem?_set,if_neg e];exact h1,by rw[List.getD_eq_getElem?_getD,List.getElem?_set,if_neg e,←List.getD_eq_getElem?_getD];exact h2⟩
theorem DonR.set {ds:List Int} {d:List Bool} {n k:Nat} (h:DonR ds d n) (hl:ds.length=n) (hk:k<n):DonR (ds.set k 1) (d.set k true) n:=by
 obtain⟨h0,h1⟩:=h
 refine⟨by simp[h0],fun i hi=> ?_⟩
 by_cases e:k=i
 ·subst e
  exact⟨1,by rw[List.getElem?_set,if_pos rfl,if_pos (by omega)],.inr ⟨rfl,by rw[List.getD_eq_getElem?_getD,List.getElem?_set,if_pos rfl,if_pos (by omega)];rfl⟩⟩
 ·obtain⟨x,h2,h3⟩:=h1 i hi
  refine⟨x,by rw[List.getElem?_set,if_neg e];exact h2, ?_⟩
  rw[List.getD_eq_getElem?_getD,List.getElem?_set,if_neg e,←List.getD_eq_getElem?_getD]
  exact h3
theorem cnt_setR:∀(d:List Bool) (k:Nat),d[k]? =some false→(d.set k true).count false+1=d.count false
 | [],k,h=>by simp at h
 |x::r,0,h=>by
  obtain rfl:x=false:=by simpa using h
  simp
 |x::r,k+1,h=>by
  have ih:=cnt_setR r k (by simpa using h)
  rw[List.set_cons_succ,List.count_cons,List.count_cons]
  omega
end Go.Proofs.YtagnicbknbmccaaGreatDoor
