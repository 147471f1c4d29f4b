/- code.inst of a line without a text. code.opened of a function's first line. (*Program).line of an instruction's line without a text. (*Program).line of the first line, and of a function's line. code.opened of any parts of a line. strings.SplitN and strings.Split of a line's text, at blanks. code.Decode of any bytes: what the reading has come to, between two things. (*Program).line of a function's line. code.Read of the least program's lines. -/
import Derived.Lib.Split
import Derived.OneCell
import Derived.Lib.SmallJoins
import Derived.Test.YtagnicbknbmccaaGreatDoorMCwF
import Derived.Test.YtagnicbknbmccaaGreatDoorSqC
import Derived.Test.YtagnicbknbmccaaGreatDoorMCxJ
import Derived.Test.YtagnicbknbmccaaGreatDoorCxI
import Derived.Test.YtagnicbknbmccaaGreatDoorMCdD
import Derived.Test.YtagnicbknbmccaaGreatDoorMCzS
import Derived.Test.YtagnicbknbmccaaGreatDoorMCzK
set_option maxRecDepth 100000
set_option maxHeartbeats 8000000
namespace Go.Proofs.YtagnicbknbmccaaGreatDoor
open Go.RowKit
theorem Gc.maxLen {w:World} (h:Gc w):∃m,w.cell? ⟨2,0,none⟩=some (.int .i64 m):=h.max
theorem set_other {W:World} {a b:Addr} {v u:Value} (h:W.cell? b=some u) (hne:b.block≠a.block):(W.setCell a v).cell? b=some u:=
 (World.cell?_of_block (w:=W) (a:=b) (Below.heap_setCell W _ _ _ hne)).trans h
theorem inst_result (tmps:Array Value) (W:World) (g:Nat) (v0 v1 v2 v3 v4 v5:Value) (h2:tmps.getD 2 undef= .pointer (some ⟨g,0,none⟩)) (h3:tmps.getD 3 undef=v5) (e0:W.cell? ⟨g,0,none⟩=some v0) (e1:W.cell? ⟨g,1,none⟩=some v1) (e2:W.cell? ⟨g,2,none⟩=some v2) (e3:W.cell? ⟨g,3,none⟩=some v3) (e4:W.cell? ⟨g,4,none⟩=some v4):
  (results Tryz.f110 tmps).run Tryz.prog W= .ok (.tuple #[.agg #[v0,v1,v2,v3,v4],v5]) W:=by
 have h2':tmps[2]?.getD undef= .pointer (some ⟨g,0,none⟩):=by simpa using h2
 have h3':tmps[3]?.getD undef=v5:=by simpa using h3
 have hres:Tryz.f110.results= #[ResultVar.cell 2 36,ResultVar.tmp 3]:=rfl
 simp[results,go_sem,h2',h3',e0,e1,e2,e3,e4]
theorem opened_result (tmps:Array Value) (W:World) (g:Nat) (v0 v1 v2 v3 v4 v5 v6:Value) (h2:tmps.getD 2 undef= .pointer (some ⟨g,0,none⟩)) (h3:tmps.getD 3 undef=v6) (e0:W.cell? ⟨g,0,none⟩=some v0) (e1:W.cell? ⟨g,1,none⟩=some v1) (e2:W.cell? ⟨g,2,none⟩=some v2) (e3:W.cell? ⟨g,3,none⟩=some v3) (e4:W.cell? ⟨g,4,none⟩=some v4) (e5:W.cell? ⟨g,5,none⟩=some v5):
  (results Tryz.f111 tmps).run Tryz.prog W= .ok (.tuple #[.agg #[v0,v1,v2,v3,v4,v5],v6]) W:=by
 have h2':tmps[2]?.getD undef= .pointer (some ⟨g,0,none⟩):=by simpa using h2
 have h3':tmps[3]?.getD undef=v6:=by simpa using h3
 have hres:Tryz.f111.results= #[ResultVar.cell 2 33,ResultVar.tmp 3]:=rfl
 simp[results,go_sem,h2',h3',e0,e1,e2,e3,e4,e5]
def rdF (xs:List Ci):Cf:=⟨⟨#[]⟩,0,1,[],-1,xs⟩
structure RdS (lo:Nat) (W0 W:World) (pb g cap:Nat) (ga:Option Addr) (gc:Nat) (fv:Fv) (xs:List Ci):Prop where
 low:Below lo W0 W
 box:W.heap[pb]? =some (.cells #[.slice (some ⟨g,0,none⟩) 1 cap,.slice ga 0 gc] 27 (0,0))
 fns:W.ownsRow lo 33 6 (.slice (some ⟨g,0,none⟩) 1 cap) 1 (fnCells (rdF xs,fv))
 ins:W.ownsRow lo 36 5 (.slice fv.ca xs.length fv.cc) xs.length (xs.flatMap insCells)
 ne1:g≠pb
 ne2:Value.ownBlock (.slice fv.ca xs.length fv.cc)≠some pb
 ne3:Value.ownBlock (.slice fv.ca xs.length fv.cc)≠some g
 lp:lo≤pb
section
variable {lo:Nat} {W0 W W' W2:World} {pb g cap gc:Nat} {ga:Option Addr} {fv:Fv} {xs:List Ci} {o:Obj}
theorem RdS.lo_le (h:RdS lo W0 W pb g cap ga gc fv xs):lo≤W.heap.size:=by
 have:=(Array.getElem?_eq_some_iff.1 h.box).1
 have:=h.lp
 omega
theorem RdS.plt (h:RdS lo W0 W pb g cap ga gc fv xs):pb<W.heap.size:=(Array.getElem?_eq_some_iff.1 h.box).1
theorem RdS.glt (h:RdS lo W0 W pb g cap ga gc fv xs):lo≤g∧g<W.heap.size:=h.fns.lt g rfl
theorem RdS.under (h:RdS lo W0 W pb g cap ga gc fv xs) (hb:Below W.heap.size W W'):RdS lo W0 W' pb g cap ga gc fv xs:=
 ⟨h.low.trans (hb.mono h.lo_le),(hb.block pb h.plt).trans h.box,own_up h.fns hb,own_up h.ins hb,h.ne1,h.ne2,h.ne3,h.lp⟩
theorem RdS.alloc (h:RdS lo W0 W pb g cap ga gc fv xs) (p:Obj):RdS lo W0 (W.alloc p) pb g cap ga gc fv xs:=h.under ((Below.refl _ _).alloc (Nat.le_refl _) _)
theorem RdS.c (h:RdS lo W0 W pb g cap ga gc fv xs):W.cell? ⟨pb,0,none⟩=some (.slice (some ⟨g,0,none⟩) 1 cap):=by
 have:=cell_of_row W pb 0 _ _ _ h.box
 simpa using this
theorem RdS.c5 (h:RdS lo W0 W pb g cap ga gc fv xs):W.cell? ⟨g,5,none⟩=some (.slice fv.ca xs.length fv.cc)∧W.frozen? ⟨g,5,none⟩=false:=
 ⟨(h.fns.cellAt 5 (by decide)).trans rfl,h.fns.frozenAt 5⟩
theorem RdS.push {x:Ci} {g2 cap2:Nat} (h:RdS lo W0 W pb g cap ga gc fv xs) (ho:W2.ownsRow lo 36 5 (.slice (some ⟨g2,0,none⟩) (xs.length+1) cap2) (xs.length+1) (xs.flatMap insCells++insCells x))
  (hg:(W.alloc o).grownBy W2 (Value.ownBlock (.slice fv.ca xs.length fv.cc))) (hb:Value.ownBlock (.slice fv.ca xs.length fv.cc)=some g2∨g2=(W.alloc o).heap.size):
  (W2.cell? ⟨g,5,none⟩=some (.slice fv.ca xs.length fv.cc)∧W2.frozen? ⟨g,5,none⟩=false)∧RdS lo W0 (W2.setCell ⟨g,5,none⟩ (.slice (some ⟨g2,0,none⟩) (xs.length+1) cap2)) pb g cap ga gc ⟨fv.ta,fv.tc,some ⟨g2,0,none⟩,cap2⟩ (xs++ [x]):=by
 have hgl:=h.glt
 have hpl:=h.plt
 have hll:=h.lo_le
 have hsz:(W.alloc o).heap.size=W.heap.size+1:=World.size_alloc _ _
 have hg2:g2≠pb∧g2≠g:=by
  rcases hb with h2|h2
  ·exact⟨fun e=>h.ne2 (by rw[h2,e]),fun e=>h.ne3 (by rw[h2,e])⟩
  ·omega
 have hf2:W2.ownsRow lo 33 6 (.slice (some ⟨g,0,none⟩) 1 cap) 1 (fnCells (rdF xs,fv)):=(h.fns.alloc o).kept hg (.inr (fun e=>h.ne3 e.symm))
 have hbx:W2.heap[pb]? =some (.cells #[.slice (some ⟨g,0,none⟩) 1 cap,.slice ga 0 gc] 27 (0,0)):=(hg.block pb (by omega) (fun e=>h.ne2 e.symm)).trans ((heap_alloc_old _ _ hpl).trans h.box)
 refine⟨⟨(hf2.cellAt 5 (by decide)).trans rfl,hf2.frozenAt 5⟩, ?_,(Below.heap_setCell _ _ _ _ (fun e=>h.ne1 e.symm)).trans hbx, ?_, ?_,h.ne1,fun e=>hg2.1 (by simpa[Value.ownBlock] using e),fun e=>hg2.2 (by simpa[Value.ownBlock] using e),h.lp⟩
 ·have hb2:Below lo W0 W2:=(h.low.alloc hll o).trans ⟨hg.os,hg.tape,hg.output,hg.size,fun k hk=>hg.block k (by omega) (fun e=>by have:=(h.ins.lt k e.symm).1;omega)⟩
  exact hb2.setCell hgl.1 _
 ·have:=(hf2.stored 5 (.slice (some ⟨g2,0,none⟩) (xs.length+1) cap2)).1
  have e:(fnCells (rdF xs,fv)).set 5 (.slice (some ⟨g2,0,none⟩) (xs.length+1) cap2)=fnCells (rdF (xs++ [x]),⟨fv.ta,fv.tc,some ⟨g2,0,none⟩,cap2⟩):=by
   simp[fnCells,rdF]
  rw[e] at this
  exact this
 ·have e1:(xs++ [x]).length=xs.length+1:=by simp
  have e2:(xs++ [x]).flatMap insCells=xs.flatMap insCells++insCells x:=by simp
  rw[e1,e2]
  exact ownsRow_setCell_other ho (fun e=>hg2.2 (by simpa[Value.ownBlock] using e)) _
end
theorem tail_of (c:UInt8) (r:List UInt8):(⟨⟨c::r⟩⟩:ByteArray).extract 1 (r.length+1)=⟨⟨r⟩⟩:=by
 have:(⟨⟨c::r⟩⟩:ByteArray).extract 1 (r.length+1)=⟨(⟨c::r⟩:Array UInt8).extract 1 (r.length+1)⟩:=by
  simp[ByteArray.extract,ByteArray.copySlice]
 rw[this]
 congr 1
 simp
def OpdPost (w:World) (o:Option Cf) (e:Ending) (w':World):Prop:=Below w.heap.size w w'∧match o with
 |none=>e= .returned (.tuple #[.agg #[.string ⟨#[]⟩,.int .i64 0,.int .i64 0,.slice none 0 0,.int .i64 0,.slice none 0 0],.bool false])
 |some f=>∃A ic,e= .returned (.tuple #[.agg #[.string f.name,.int .i64 f.params,.int .i64 f.slots,.slice A f.taken.length ic,.int .i64 f.around,.slice none 0 0],.bool true])∧f.code=[]∧RowIs w' w'.heap.size A (f.taken.map (Value.int .i64))∧f.taken.length≤ic∧∀a,A=some a→w.heap.size≤a.block
theorem opd_fail {w W:World} (hb:Below w.heap.size w W) (hr:W.heap[w.heap.size]? =some (.cells #[.string ⟨#[]⟩,.int .i64 0,.int .i64 0,.slice none 0 0,.int .i64 0,.slice none 0 0] 33 (0,0))):
  (∀j:Nat,j<6→W.frozen? ⟨w.heap.size,j,none⟩=false)∧W.cell? ⟨w.heap.size,0,none⟩=some (.string ⟨#[]⟩)∧W.cell? ⟨w.heap.size,1,none⟩=some (.int .i64 0)∧W.cell? ⟨w.heap.size,2,none⟩=some (.int .i64 0)∧W.cell? ⟨w.heap.size,3,none⟩=some (.slice none 0 0)∧W.cell? ⟨w.heap.size,4,none⟩=some (.int .i64 0)∧W.cell? ⟨w.heap.size,5,none⟩=some (.slice none 0 0)∧
  ∀v0 v1 v2 v3 v4 v5:Value,OpdPost w none (.returned (.tuple #[.agg #[.string ⟨#[]⟩,.int .i64 0,.int .i64 0,.slice none 0 0,.int .i64 0,.slice none 0 0],.bool false])) ((((((W.setCell ⟨w.heap.size,0,none⟩ v0).setCell ⟨w.heap.size,1,none⟩ v1).setCell ⟨w.heap.size,2,none⟩ v2).setCell ⟨w.heap.size,3,none⟩ v3).setCell ⟨w.heap.size,4,none⟩ v4).setCell ⟨w.heap.size,5,none⟩ v5):=
 ⟨fun j _=>frozen_of_row W _ j _ _ hr,cell_of_row W _ 0 _ _ _ hr,cell_of_row W _ 1 _ _ _ hr,cell_of_row W _ 2 _ _ _ hr,cell_of_row W _ 3 _ _ _ hr,cell_of_row W _ 4 _ _ _ hr,cell_of_row W _ 5 _ _ _ hr,fun _ _ _ _ _ _=>⟨((((((hb.setCell (Nat.le_refl _) _).setCell (Nat.le_refl _) _).setCell (Nat.le_refl _) _).setCell (Nat.le_refl _) _).setCell (Nat.le_refl _) _).setCell (Nat.le_refl _) _),rfl⟩⟩
theorem openedL_eq (wd nm a b c:List UInt8) (r:List (List UInt8)):openedL (wd::nm::a::b::c::r)=if wd≠ [102,117,110,99]∨nm=[] then none else match intsL (a::b::c::r) with
  |some (p::s::o::t)=>some ⟨⟨⟨if nm=[45] then [] else nm⟩⟩,p,s,t,o,[]⟩
  |_=>none:=rfl
theorem opened_any {w:World} (hG:Gc w) {SA:Option Addr} {l:List (List UInt8)} {m cap:Nat} (hm:l.length=m) (h:RowIs w w.heap.size SA (l.map fun s=>Value.string ⟨⟨s⟩⟩)) (hcap:m≤cap) (hlen:∀s∈l,s.length≤140737488351232) (hmb:m≤1000000000):
  Calls Tryz.prog 111 #[.slice SA m cap] w (OpdPost w (openedL l)):=by
 obtain⟨R,HR⟩:∃R,Hid (openedL l=R):=⟨_,rfl⟩
 rw[HR.out]
 have hB0:Below w.heap.size w (w.alloc (.cells #[.string ⟨#[]⟩,.int .i64 0,.int .i64 0,.slice none 0 0,.int .i64 0,.slice none 0 0] 33 (0,0))):=(Below.refl _ _).alloc (Nat.le_refl _) _
 have hr0:=heap_alloc_new w (.cells #[.string ⟨#[]⟩,.int .i64 0,.int .i64 0,.slice none 0 0,.int .i64 0,.slice none 0 0] 33 (0,0))
 obtain⟨W0,hW0⟩:∃W0,w.alloc (.cells #[.string ⟨#[]⟩,.int .i64 0,.int .i64 0,.slice none 0 0,.int .i64 0,.slice none 0 0] 33 (0,0))=W0:=⟨_,rfl⟩
 have hW0s:W0.heap.size=w.heap.size+1:=by rw[←hW0];simp
 have HW0:=Lib.hid hW0
 rw[hW0] at hB0 hr0
 clear hW0
 have HB0:=Lib.hid hB0
 have HR0:=Lib.hid hr0
 by_cases h5:m<5
 ·have hR:R=none:=by
   rw[←HR.out]
   match l,hm with
   | [],_=>rfl
   | [_],_=>rfl
   | [_,_],_=>rfl
   | [_,_,_],_=>rfl
   | [_,_,_,_],_=>rfl
   |_::_::_::_::_::_,hm=>simp at hm;omega
  subst hR
  have d:decide ((m:Int)<5)=true:=by simp;omega
  obtain⟨hfr,c0,c1,c2,c3,c4,c5,hfin⟩:=opd_fail hB0 hr0
  have f0:=hfr 0 (by decide)
  have f1:=hfr 1 (by decide)
  have f2:=hfr 2 (by decide)
  have f3:=hfr 3 (by decide)
  have f4:=hfr 4 (by decide)
  have f5:=hfr 5 (by decide)
  have HFIN:=Lib.hid hfin
  clear hB0 hr0 hfr hfin h hm
  go_enter Tryz.func111,Tryz.ntmps111
  go_upto_region 1 with fail
  simp only[HW0.out]
  go_wp2_with fail
  refine bodyPost_ret (opened_result _ _ w.heap.size (.string ⟨#[]⟩) (.int .i64 0) (.int .i64 0) (.slice none 0 0) (.int .i64 0) (.slice none 0 0) (.bool false) rfl rfl ?_ ?_ ?_ ?_ ?_ ?_) rfl (HFIN.out _ _ _ _ _ _)
  iterate 6 (·first|(simp[c0,c1,c2,c3,c4,c5];done)|(go_simp;done))
 ·obtain⟨wd,nm,a,b,c,r,rfl⟩:∃wd nm a b c r,l=wd::nm::a::b::c::r:=by
   match l,hm with
   | [],hm=>simp at hm;omega
   | [_],hm=>simp at hm;omega
   | [_,_],hm=>simp at hm;omega
   | [_,_,_],hm=>simp at hm;omega
   | [_,_,_,_],hm=>simp at hm;omega
   |wd::nm::a::b::c::r,_=>exact⟨wd,nm,a,b,c,r,rfl⟩
  obtain⟨M,hM⟩:∃M,r.length=M:=⟨_,rfl⟩
  obtain rfl:m=M+5:=by simp only[List.length_cons,hM] at hm;omega
  have HM:=Lib.hid hM
  have HRE:=HR.out
  rw[openedL_eq] at HRE
  obtain⟨g,o,rfl,hg,hc⟩:=h.at (by simp)
  have c0:=hc 0 (.string ⟨⟨wd⟩⟩) rfl
  simp only[Nat.add_zero] at c0
  have c1:=hc 1 (.string ⟨⟨nm⟩⟩) rfl
  have d:decide (((M:Int)+5)<5)=false:=by simp;omega
  have HRW:Hid (RowIs w w.heap.size (some ⟨g,o+2,none⟩) ((a::b::c::r).map fun s=>Value.string ⟨⟨s⟩⟩)):=Lib.hid (.inr ⟨g,o+2,rfl,hg,fun j v hj=>by
   have:=hc (2+j) v (by rw[Nat.add_comm];exact hj)
   rw[Nat.add_assoc]
   exact this⟩)
  have HG:=Lib.hid hG
  have HL:Hid (∀t∈a::b::c::r,t.length≤140737488351232):=Lib.hid fun t ht=>hlen t (List.mem_cons_of_mem _ (List.mem_cons_of_mem _ ht))
  have hgl:g<W0.heap.size:=by omega
  have c0:=old_cell0 c0 hB0
  have c1:=old_cell0 c1 hB0
  by_cases hwd:wd=[102,117,110,99]
  ·subst hwd
   by_cases hnm:nm=[]
   ·subst hnm
    have hR:R=none:=by rw[←HRE,if_pos (.inr rfl)]
    subst hR
    obtain⟨hfr,r0,r1,r2,r3,r4,r5,hfin⟩:=opd_fail hB0 hr0
    have f0:=hfr 0 (by decide)
    have f1:=hfr 1 (by decide)
    have f2:=hfr 2 (by decide)
    have f3:=hfr 3 (by decide)
    have f4:=hfr 4 (by decide)
    have f5:=hfr 5 (by decide)
    have HFIN:=Lib.hid hfin
    clear hB0 hr0 hfr hfin h hm HRE hc hlen hG
    go_enter Tryz.func111,Tryz.ntmps111
    go_upto_region 1 with fail
    simp only[HW0.out]
    go_wp2_with fail
    refine bodyPost_ret (opened_result _ _ w.heap.size (.string ⟨#[]⟩) (.int .i64 0) (.int .i64 0) (.slice none 0 0) (.int .i64 0) (.slice none 0 0) (.bool false) rfl rfl ?_ ?_ ?_ ?_ ?_ ?_) rfl (HFIN.out _ _ _ _ _ _)
    iterate 6 (·first|(simp[r0,r1,r2,r3,r4,r5];done)|(go_simp;done))
   ·have e3:nm.isEmpty=false:=by simpa using hnm
    rw[if_neg (by simp[hnm])] at HRE
    have HRW0:Hid (RowIs W0 W0.heap.size (some ⟨g,o+2,none⟩) ((a::b::c::r).map fun s=>Value.string ⟨⟨s⟩⟩)):=Lib.hid ((HRW.out.keep hB0.block).more hB0.size)
    have HG0:Hid (Gc W0):=Lib.hid (HG.out.up hB0)
    have hml:(a::b::c::r).length=M+3:=by simp[hM]
    clear h hm hc hlen hG HRW
    cases hi:intsL (a::b::c::r) with
    |none=>
     rw[hi] at HRE
     have hR:R=none:=HRE.symm
     subst hR
     have HI:=Lib.hid hi
     have hpost:∀w2,Below W0.heap.size W0 w2→Below w.heap.size w w2∧w2.heap[w.heap.size]? =some (.cells #[.string ⟨#[]⟩,.int .i64 0,.int .i64 0,.slice none 0 0,.int .i64 0,.slice none 0 0] 33 (0,0)):=fun w2 h=>⟨HB0.out.trans (h.mono HB0.out.size),(h.block _ (Array.getElem?_eq_some_iff.1 HR0.out).1).trans HR0.out⟩
     have HPO:=Lib.hid hpost
     clear hB0 hr0 HRE hi hpost
     go_enter Tryz.func111,Tryz.ntmps111
     go_upto_region 1 with fail
     simp only[HW0.out]
     go_wp2_with (go_at_call 150;refine(ints_none (l:=a::b::c::r) HG0.out hml HRW0.out HI.out HL.out (by omega)).mono ?_;rintro e w2 ⟨rfl,hb2⟩;obtain⟨hfr,r0,r1,r2,r3,r4,r5,hfin⟩:=opd_fail (HPO.out _ hb2).1 (HPO.out _ hb2).2;have f0:=hfr 0 (by decide);have f1:=hfr 1 (by decide);have f2:=hfr 2 (by decide);have f3:=hfr 3 (by decide);have f4:=hfr 4 (by decide);have f5:=hfr 5 (by decide);have HFIN:=Lib.hid hfin;clear hfr hfin hb2)
     refine bodyPost_ret (opened_result _ _ w.heap.size (.string ⟨#[]⟩) (.int .i64 0) (.int .i64 0) (.slice none 0 0) (.int .i64 0) (.slice none 0 0) (.bool false) rfl rfl ?_ ?_ ?_ ?_ ?_ ?_) rfl (HFIN.out _ _ _ _ _ _)
     iterate 6 (·first|(simp[r0,r1,r2,r3,r4,r5];done)|(go_simp;done))
    |some ns=>
     have hnl:=ints_len hi
     rw[hml] at hnl
     obtain⟨x,y,z,ts,rfl⟩:∃x y z ts,ns=x::y::z::ts:=by
      match ns,hnl with
      | [],hnl=>simp at hnl
      | [_],hnl=>simp at hnl
      | [_,_],hnl=>simp at hnl
      |x::y::z::ts,_=>exact⟨x,y,z,ts,rfl⟩
     have htl:ts.length=M:=by simpa using hnl
     rw[hi] at HRE
     have hR:R=some ⟨⟨⟨if nm=[45] then [] else nm⟩⟩,x,y,ts,z,[]⟩:=HRE.symm
     subst hR
     have HTL:=Lib.hid htl
     have HI:=Lib.hid hi
     clear HRE hi hnl htl
     go_enter Tryz.func111,Tryz.ntmps111
     go_upto_region 1 with fail
     simp only[HW0.out]
     go_upto_region 4 with(go_at_call 150;refine(ints_some (l:=a::b::c::r) HG0.out hml HRW0.out HI.out HL.out (by omega)).mono ?_;rintro e w2 ⟨v2,rfl,ho2,hb2⟩)
     obtain⟨ig,icap,rfl,hig1,hig2⟩:=ho2.form (show 0<M+3 by omega)
     have hic:=(own_row ho2).2
     have j0:=ho2.cells (g:=ig) rfl 0 (.int .i64 x) rfl
     have j1:=ho2.cells (g:=ig) rfl 1 (.int .i64 y) rfl
     have j2:=ho2.cells (g:=ig) rfl 2 (.int .i64 z) rfl
     simp only[Addr.add_lit,Nat.zero_add] at j0 j1 j2
     have hij:∀j v,(ts.map (Value.int .i64))[j]? =some v→w2.cell? ⟨ig,3+j,none⟩=some v:=fun j v hj=>by
      have:=ho2.cells (g:=ig) rfl (j+3) v hj
      rwa [Addr.add_lit,Nat.zero_add,Nat.add_comm] at this
     have hic3:3≤icap:=by omega
     have d1:=old_cell0 c1 hb2
     have hr2:=(hb2.block w.heap.size (Array.getElem?_eq_some_iff.1 hr0).1).trans hr0
     have hB2:=hB0.trans (hb2.mono hB0.size)
     obtain⟨rb,hrb⟩:∃rb,w.heap.size=rb:=⟨_,rfl⟩
     simp only[hrb] at hr2 hB2 hW0s⊢
     have hrl:=(Array.getElem?_eq_some_iff.1 hr2).1
     have hrig:rb<ig:=by omega
     have HB:=Lib.hid hB2
     have HR:=Lib.hid hr2
     have HIJ:=Lib.hid hij
     clear ho2 hb2 hB0 hr0 HRW0 HG HG0 HI HL c0 c1 hg hB2 hr2 hij HB0 HR0 HW0 hgl hig1 hW0s
     have b5:(1:Int)<(M:Int)+5:=by omega
     have b0:(0:Int)<(M:Int)+3:=by omega
     have b1:(1:Int)<(M:Int)+3:=by omega
     have b2:(2:Int)<(M:Int)+3:=by omega
     have b3:(3:Int)≤(M:Int)+3:=by omega
     go_upto_region 6 with fail
     go_cut [6] (fun s6 wx=>∃(xb:Nat) (A:Option Addr) (ic:Nat),s6= .pointer (some ⟨xb,0,none⟩)∧rb<xb∧Hid (Below rb w wx)∧Hid (wx.heap[rb]? =some (.cells #[.string ⟨#[]⟩,.int .i64 0,.int .i64 0,.slice none 0 0,.int .i64 0,.slice none 0 0] 33 (0,0)))∧Hid (wx.heap[xb]? =some (.cells #[.string ⟨⟨nm⟩⟩,.int .i64 x,.int .i64 y,.slice A M ic,.int .i64 z,.slice none 0 0] 33 (0,0)))∧M≤ic∧Hid (∀a,A=some a→rb<a.block∧a.block≠xb)∧Hid (RowIs wx wx.heap.size A (ts.map (Value.int .i64))))
     case first=>
      have HB:Hid (Below rb w w2.drew):=Lib.hid ⟨HB.out.os,HB.out.tape,HB.out.output,HB.out.size,HB.out.block⟩
      have HR:=Lib.hid (show w2.drew.heap[rb]? =some (.cells #[.string ⟨#[]⟩,.int .i64 0,.int .i64 0,.slice none 0 0,.int .i64 0,.slice none 0 0] 33 (0,0)) from HR.out)
      have HIJ:=Lib.hid (show∀j v,(ts.map (Value.int .i64))[j]? =some v→w2.drew.cell? ⟨ig,3+j,none⟩=some v from HIJ.out)
      have d1:w2.drew.cell? ⟨g,o+1,none⟩=some (.string ⟨⟨nm⟩⟩):=d1
      have i0:w2.drew.cell? ⟨ig,0,none⟩=some (.int .i64 x):=j0
      have i1:w2.drew.cell? ⟨ig,1,none⟩=some (.int .i64 y):=j1
      have i2:w2.drew.cell? ⟨ig,2,none⟩=some (.int .i64 z):=j2
      have hrl:rb<w2.drew.heap.size:=hrl
      have hig2:ig<w2.drew.heap.size:=hig2
      clear j0 j1 j2
      rcases Nat.lt_or_eq_of_le hic3 with h3|rfl
      ·refine wp_region_G [] (fun u=>u.cell? ⟨g,o+1,none⟩=some (.string ⟨⟨nm⟩⟩)∧u.cell? ⟨ig,0,none⟩=some (.int .i64 x)∧u.cell? ⟨ig,1,none⟩=some (.int .i64 y)∧u.cell? ⟨ig,2,none⟩=some (.int .i64 z)) (by rfl) ?_ (fun hHeld=> ?_)
       ·exact⟨d1,i0,i1,i2⟩
       generalize hwd:World.drew w2=wd2 at HB HR HIJ d1 i0 i1 i2 hrl hig2 hHeld⊢
       refine tk 0 (h:=tk 1 (h:=tk 2 (h:=tk 3 (h:=tk 4 (h:=tk 5 (h:= ?_))))))
       try simp only[nmC]
       refine tk 6 (h:=tk 7 (h:=tk 8 (h:=tk 9 (h:=tk 10 (h:=tk 11 (h:= ?_))))))
       try simp only[nmC]
       refine tk 12 (h:=tk 13 (h:=tk 14 (h:= ?_)))
       try simp only[nmC]
       refine rd1 15 fun KK hKK=> ?_
       go_simp
       have hle:rb≤wd2.heap.size:=by omega
       have HBo:=HB
       refine hKK.out _ _ (⟨(World.cell?_of_block (a:=⟨g,o+1,none⟩) (heap_alloc_old _ _ (World.block_lt_of_cell? wd2 _ d1))).trans d1,(World.cell?_of_block (a:=⟨ig,0,none⟩) (heap_alloc_old _ _ hig2)).trans i0,(World.cell?_of_block (a:=⟨ig,1,none⟩) (heap_alloc_old _ _ hig2)).trans i1,(World.cell?_of_block (a:=⟨ig,2,none⟩) (heap_alloc_old _ _ hig2)).trans i2⟩) (fun hHeld=> ?_)
       clear hKK KK
       try simp only[nmC]
       refine rd1 16 fun KK hKK=> ?_
       go_simp
       have hle:rb≤wd2.heap.size:=by omega
       refine hKK.out _ _ (⟨(World.cell?_of_block (a:=⟨g,o+1,none⟩) (heap_alloc_old _ _ (World.block_lt_of_cell? wd2 _ d1))).trans d1,(World.cell?_of_block (a:=⟨ig,0,none⟩) (heap_alloc_old _ _ hig2)).trans i0,(World.cell?_of_block (a:=⟨ig,1,none⟩) (heap_alloc_old _ _ hig2)).trans i1,(World.cell?_of_block (a:=⟨ig,2,none⟩) (heap_alloc_old _ _ hig2)).trans i2⟩) (fun hHeld=> ?_)
       clear hKK KK
       try simp only[nmC]
       refine wpAnyG_done (by kernel_rfl) ?_ _
       try go_wp2_with fail
       go_meet
       refine⟨wd2.heap.size,_,_,rfl,hrl,Lib.hid (HBo.out.alloc hle _),Lib.hid ((heap_alloc_old _ _ hrl).trans HR.out),Lib.hid (heap_alloc_new _ _),by omega,Lib.hid fun a ha=> ?_,Lib.hid ?_⟩
       ·obtain rfl:=Option.some.inj ha
        exact⟨hrig,by show ig≠wd2.heap.size;omega⟩
       ·first
         |exact .inl (by rw[List.eq_nil_of_length_eq_zero HTL.out];rfl)
         |exact .inr ⟨ig,3,rfl,by rw[World.size_alloc];omega,fun j v hj=>(World.cell?_of_block (a:=⟨ig,3+j,none⟩) (heap_alloc_old _ _ hig2)).trans (HIJ.out j v hj)⟩
      ·obtain rfl:M=0:=by omega
       refine wp_region_G [] (fun u=>u.cell? ⟨g,o+1,none⟩=some (.string ⟨⟨nm⟩⟩)∧u.cell? ⟨ig,0,none⟩=some (.int .i64 x)∧u.cell? ⟨ig,1,none⟩=some (.int .i64 y)∧u.cell? ⟨ig,2,none⟩=some (.int .i64 z)) (by rfl) ?_ (fun hHeld=> ?_)
       ·exact⟨d1,i0,i1,i2⟩
       generalize hwd:World.drew w2=wd2 at HB HR HIJ d1 i0 i1 i2 hrl hig2 hHeld⊢
       refine tk 0 (h:=tk 1 (h:=tk 2 (h:=tk 3 (h:=tk 4 (h:=tk 5 (h:= ?_))))))
       try simp only[nmC]
       refine tk 6 (h:=tk 7 (h:=tk 8 (h:=tk 9 (h:=tk 10 (h:=tk 11 (h:= ?_))))))
       try simp only[nmC]
       refine tk 12 (h:=tk 13 (h:=tk 14 (h:= ?_)))
       try simp only[nmC]
       refine rd1 15 fun KK hKK=> ?_
       go_simp
       have hle:rb≤wd2.heap.size:=by omega
       have HBo:=HB
       refine hKK.out _ _ (⟨(World.cell?_of_block (a:=⟨g,o+1,none⟩) (heap_alloc_old _ _ (World.block_lt_of_cell? wd2 _ d1))).trans d1,(World.cell?_of_block (a:=⟨ig,0,none⟩) (heap_alloc_old _ _ hig2)).trans i0,(World.cell?_of_block (a:=⟨ig,1,none⟩) (heap_alloc_old _ _ hig2)).trans i1,(World.cell?_of_block (a:=⟨ig,2,none⟩) (heap_alloc_old _ _ hig2)).trans i2⟩) (fun hHeld=> ?_)
       clear hKK KK
       try simp only[nmC]
       refine rd1 16 fun KK hKK=> ?_
       go_simp
       have hle:rb≤wd2.heap.size:=by omega
       refine hKK.out _ _ (⟨(World.cell?_of_block (a:=⟨g,o+1,none⟩) (heap_alloc_old _ _ (World.block_lt_of_cell? wd2 _ d1))).trans d1,(World.cell?_of_block (a:=⟨ig,0,none⟩) (heap_alloc_old _ _ hig2)).trans i0,(World.cell?_of_block (a:=⟨ig,1,none⟩) (heap_alloc_old _ _ hig2)).trans i1,(World.cell?_of_block (a:=⟨ig,2,none⟩) (heap_alloc_old _ _ hig2)).trans i2⟩) (fun hHeld=> ?_)
       clear hKK KK
       try simp only[nmC]
       refine wpAnyG_done (by kernel_rfl) ?_ _
       try go_wp2_with fail
       go_meet
       refine⟨wd2.heap.size,_,_,rfl,hrl,Lib.hid (HBo.out.alloc hle _),Lib.hid ((heap_alloc_old _ _ hrl).trans HR.out),Lib.hid (heap_alloc_new _ _),by omega,Lib.hid fun a ha=> ?_,Lib.hid ?_⟩
       ·obtain rfl:=Option.some.inj ha
        exact⟨hrig,by show ig≠wd2.heap.size;omega⟩
       ·first
         |exact .inl (by rw[List.eq_nil_of_length_eq_zero HTL.out];rfl)
         |exact .inr ⟨ig,3,rfl,by rw[World.size_alloc];omega,fun j v hj=>(World.cell?_of_block (a:=⟨ig,3+j,none⟩) (heap_alloc_old _ _ hig2)).trans (HIJ.out j v hj)⟩
     case rest=>
      clear HB HR d1 j0 j1 j2 HIJ
      obtain⟨xb,A,ic,rfl,hrx,HB,HR,HX,hMic,HAB,HRI⟩:=hcut
      obtain⟨y0,y1,y2,y3,y4,y5⟩:=cr6 wc xb HX.out
      have g0:=frozen_of_row wc xb 0 _ _ HX.out
      obtain⟨r0,r1,r2,r3,r4,r5⟩:=cr6 wc rb HR.out
      have f0:=frozen_of_row wc rb 0 _ _ HR.out
      have f1:=frozen_of_row wc rb 1 _ _ HR.out
      have f2:=frozen_of_row wc rb 2 _ _ HR.out
      have f3:=frozen_of_row wc rb 3 _ _ HR.out
      have f4:=frozen_of_row wc rb 4 _ _ HR.out
      have f5:=frozen_of_row wc rb 5 _ _ HR.out
      simp only[gq] at y0 y1 y2 y3 y4 y5 r0 r1 r2 r3 r4 r5
      have hxr:xb≠rb:=by omega
      have hrx2:rb≠xb:=by omega
      have hle:rb≤xb:=by omega
      have HROW:Hid (∀(W:World),(∀k,k≠rb→k≠xb→W.heap[k]? =wc.heap[k]?)→W.heap.size=wc.heap.size→RowIs W W.heap.size A (ts.map (Value.int .i64))):=Lib.hid fun W hk hsz=>by
       rcases HRI.out with h|⟨g,o,hA,hg,hc⟩
       ·exact .inl h
       ·have:=HAB.out _ hA
        exact .inr ⟨g,o,hA,by rw[hsz];exact hg,fun j v hj=>(World.cell?_of_block (w:=wc) (a:=⟨g,o+j,none⟩) (hk g (by have:=this.1;simp only at this;omega) this.2)).trans (hc j v hj)⟩
      have hAB2:∀a,A=some a→w.heap.size≤a.block:=fun a ha=>by rw[hrb];exact Nat.le_of_lt (HAB.out a ha).1
      have HAB2:=Lib.hid hAB2
      clear hAB2
      by_cases h45:nm=[45]
      ·subst h45
       go_wp2_with fail
       refine bodyPost_ret (opened_result _ _ rb (.string ⟨#[]⟩) (.int .i64 x) (.int .i64 y) (.slice A M ic) (.int .i64 z) (.slice none 0 0) (.bool true) rfl rfl ?_ ?_ ?_ ?_ ?_ ?_) rfl ⟨?_,A,ic,by simp only[HTL.out],rfl, ?_,by rw[HTL.out];exact hMic,HAB2.out⟩
       iterate 6 (·first|(simp[r0,r1,r2,r3,r4,r5];done)|(go_simp;done))
       ·rw[hrb]
        exact((((((HB.out.setCell hle _).setCell (Nat.le_refl _) _).setCell (Nat.le_refl _) _).setCell (Nat.le_refl _) _).setCell (Nat.le_refl _) _).setCell (Nat.le_refl _) _).setCell (Nat.le_refl _) _
       ·refine HROW.out _ (fun k h1 h2=> ?_) (by simp only[World.size_setCell])
        iterate 6 rw[Below.heap_setCell _ _ _ _ h1]
        exact Below.heap_setCell _ _ _ _ h2
      ·have e45:(nm==[45])=false:=by simpa using h45
       go_wp2_with fail
       refine bodyPost_ret (opened_result _ _ rb (.string ⟨⟨nm⟩⟩) (.int .i64 x) (.int .i64 y) (.slice A M ic) (.int .i64 z) (.slice none 0 0) (.bool true) rfl rfl ?_ ?_ ?_ ?_ ?_ ?_) rfl ⟨?_,A,ic,by simp only[HTL.out],rfl, ?_,by rw[HTL.out];exact hMic,HAB2.out⟩
       iterate 6 (·first|(simp[r0,r1,r2,r3,r4,r5];done)|(go_simp;done))
       ·rw[hrb]
        exact(((((HB.out.setCell (Nat.le_refl _) _).setCell (Nat.le_refl _) _).setCell (Nat.le_refl _) _).setCell (Nat.le_refl _) _).setCell (Nat.le_refl _) _).setCell (Nat.le_refl _) _
       ·refine HROW.out _ (fun k h1 h2=> ?_) (by simp only[World.size_setCell])
        iterate 6 rw[Below.heap_setCell _ _ _ _ h1]
  ·have hR:R=none:=by rw[←HRE,if_pos (.inl hwd)]
   subst hR
   have e1:(wd==[102,117,110,99])=false:=by simpa using hwd
   have e2:(wd !=[102,117,110,99])=true:=by simpa using hwd
   obtain⟨hfr,r0,r1,r2,r3,r4,r5,hfin⟩:=opd_fail hB0 hr0
   have f0:=hfr 0 (by decide)
   have f1:=hfr 1 (by decide)
   have f2:=hfr 2 (by decide)
   have f3:=hfr 3 (by decide)
   have f4:=hfr 4 (by decide)
   have f5:=hfr 5 (by decide)
   have HFIN:=Lib.hid hfin
   clear hB0 hr0 hfr hfin h hm HRE hc hlen hG hwd
   go_enter Tryz.func111,Tryz.ntmps111
   go_upto_region 1 with fail
   simp only[HW0.out]
   go_wp2_with fail
   refine bodyPost_ret (opened_result _ _ w.heap.size (.string ⟨#[]⟩) (.int .i64 0) (.int .i64 0) (.slice none 0 0) (.int .i64 0) (.slice none 0 0) (.bool false) rfl rfl ?_ ?_ ?_ ?_ ?_ ?_) rfl (HFIN.out _ _ _ _ _ _)
   iterate 6 (·first|(simp[r0,r1,r2,r3,r4,r5];done)|(go_simp;done))
theorem cutAt_len (c:UInt8):∀s:List UInt8,(cutAt c s).1.length≤s.length∧∀r,(cutAt c s).2=some r→r.length<s.length
 | []=>⟨Nat.le_refl _,fun _ h=>by cases h⟩
 |x::q=>by
  obtain⟨h1,h2⟩:=cutAt_len c q
  rw[cutAt]
  split
  ·exact⟨Nat.zero_le _,fun r h=>by injection h with h;subst h;simp⟩
  ·exact⟨by simp only[List.length_cons];omega,fun r h=>by have:=h2 r h;simp only[List.length_cons];omega⟩
theorem splitM_same (c:UInt8):∀(k j:Nat) (s:List UInt8),s.length≤k→s.length≤j→splitM c k s=splitM c j s
 |0,0,_,_,_=>rfl
 |0,j+1,s,h,_=>by
  obtain rfl:=List.eq_nil_of_length_eq_zero (Nat.le_zero.1 h)
  rfl
 |k+1,0,s,_,h=>by
  obtain rfl:=List.eq_nil_of_length_eq_zero (Nat.le_zero.1 h)
  rfl
 |k+1,j+1,s,h1,h2=>by
  rw[splitM,splitM]
  have hl:=(cutAt_len c s).2
  rcases hc:cutAt c s with⟨t,_|r⟩
  ·rfl
  ·have:=hl r (by rw[hc])
   simp only
   rw[splitM_same c k j r (by omega) (by omega)]
theorem splitM_len (c:UInt8):∀(k:Nat) (s:List UInt8),(splitM c k s).length≤k+1∧1≤(splitM c k s).length∧(splitM c k s).length≤s.length+1∧∀x∈splitM c k s,x.length≤s.length
 |0,s=>⟨by simp[splitM],by simp[splitM],by simp[splitM],fun x hx=>by rw[splitM,List.mem_singleton] at hx;rw[hx];exact Nat.le_refl _⟩
 |k+1,s=>by
  obtain⟨h1,h2⟩:=cutAt_len c s
  rw[splitM]
  rcases hc:cutAt c s with⟨t,_|r⟩
  ·rw[hc] at h1
   exact⟨by simp,by simp,by simp,fun x hx=>by rw[List.mem_singleton.1 hx];exact h1⟩
  ·rw[hc] at h1
   have h3:=h2 r (by rw[hc])
   obtain⟨a1,a2,a3,a4⟩:=splitM_len c k r
   refine⟨by simp only[List.length_cons];omega,by simp,by simp only[List.length_cons];omega,fun x hx=> ?_⟩
   rcases List.mem_cons.1 hx with rfl|hx
   ·exact h1
   ·have:=a4 x hx;omega
theorem splitB_list (k:Nat) (s:List UInt8):Lib.splitB ⟨#[32]⟩ 0 k ⟨⟨s⟩⟩=(splitM 32 k s).map fun s=>(⟨⟨s⟩⟩:ByteArray):=by
 have h:=Lib.splitB_data ⟨#[32]⟩ 0 k ⟨⟨s⟩⟩
 rw[show(⟨#[32]⟩:ByteArray).data.toList=[32] from rfl,splitK_one,show(⟨⟨s⟩⟩:ByteArray).data.toList=s from rfl] at h
 rw[←h,List.map_map]
 exact(List.map_id' _).symm
theorem splitN_any (s:List UInt8) (hs:s.length≤4000000000) (W:World) (hG:Gc W):Calls Tryz.prog 149 #[.string ⟨⟨s⟩⟩,.string ⟨#[32]⟩,.int .i64 5] W fun e w'=>∃cp,e= .returned (.slice (some ⟨W.heap.size,0,none⟩) (splitM 32 4 s).length cp)∧(splitM 32 4 s).length≤cp∧cp≤5∧Below W.heap.size W w'∧W.heap.size<w'.heap.size∧
  ∀j x,(splitM 32 4 s)[j]? =some x→w'.cell? ⟨W.heap.size,j,none⟩=some (.string ⟨⟨x⟩⟩):=by
 obtain⟨m,hm⟩:=hG.max
 have hsz:(⟨⟨s⟩⟩:ByteArray).size=s.length:=rfl
 have h:=Tryz.strings_SplitN ⟨⟨s⟩⟩ ⟨#[32]⟩ 5 m W (by rw[hsz];omega) hm (by decide) (by decide) (by decide)
 rw[hsz,splitB_list] at h
 have hM:splitM 32 (min 5 (s.length+1)-1) s=splitM 32 4 s:=by
  by_cases h4:4≤s.length
  ·rw[show min 5 (s.length+1)-1=4 by omega]
  ·exact splitM_same 32 _ _ s (by omega) (by omega)
 rw[hM] at h
 obtain⟨a1,a2,a3,a4⟩:=splitM_len 32 4 s
 refine h.mono ?_
 rintro e w' ⟨rfl,rfl⟩
 refine⟨min 5 (s.length+1),by rw[List.length_map],by omega,by omega,(Below.refl _ _).alloc (Nat.le_refl _) _,by simp,fun j x hx=> ?_⟩
 refine(cell_of_row _ _ j _ _ _ (heap_alloc_new W _)).trans ?_
 unfold Lib.cellsOf
 rw[List.getElem?_toArray,List.getElem?_append_left (by rw[List.length_map,List.length_map];exact(List.getElem?_eq_some_iff.1 hx).1),List.getElem?_map,List.getElem?_map,hx]
 rfl
theorem splitC_M (c:UInt8):∀(k:Nat) (s:List UInt8),s.length≤k→splitM c k s=splitC c s
 |0,s,h=>by
  obtain rfl:=List.eq_nil_of_length_eq_zero (Nat.le_zero.1 h)
  rfl
 |k+1,s,h=>by
  rw[splitM,splitC_cut]
  have hl:=(cutAt_len c s).2
  rcases hc:cutAt c s with⟨t,_|r⟩
  ·rfl
  ·have:=hl r (by rw[hc])
   simp only
   rw[splitC_M c k r (by omega)]
def FnOwn (W:World) (lo:Nat) (x:Cf×Fv):Prop:=W.ownsRow lo 3 1 (.slice x.2.ta x.1.taken.length x.2.tc) x.1.taken.length (x.1.taken.map (Value.int .i64))∧
 W.ownsRow lo 36 5 (.slice x.2.ca x.1.code.length x.2.cc) x.1.code.length (x.1.code.flatMap insCells)
def FnBlk (x:Cf×Fv) (g:Nat):Prop:=(Value.slice x.2.ta x.1.taken.length x.2.tc).ownBlock=some g∨(Value.slice x.2.ca x.1.code.length x.2.cc).ownBlock=some g
theorem FnOwn.lt {W:World} {lo:Nat} {x:Cf×Fv} (h:FnOwn W lo x) {g:Nat} (hg:FnBlk x g):lo≤g∧g<W.heap.size:=by
 rcases hg with hg|hg
 ·exact h.1.lt g hg
 ·exact h.2.lt g hg
theorem FnOwn.keep {W W':World} {lo:Nat} {x:Cf×Fv} (h:FnOwn W lo x) (hk:∀g,FnBlk x g→W'.heap[g]? =W.heap[g]?):FnOwn W' lo x:=
 ⟨own_keep h.1 fun g hg=>hk g (.inl hg),own_keep h.2 fun g hg=>hk g (.inr hg)⟩
theorem own_rowA {W:World} {lo:Nat} {e:TypeId} {s n cap:Nat} {A:Option Addr} {xs:List Value} (h:W.ownsRow lo e s (.slice A n cap) n xs):RowIs W W.heap.size A xs∧n≤cap:=by
 have hl:=h.1
 rcases h.2 with⟨e1,rfl⟩|⟨g,cap',cur,e1,hlo,hg,h1,h2,h3,h4⟩
 ·refine⟨.inl (List.eq_nil_of_length_eq_zero (by simpa using hl)),Nat.zero_le _⟩
 ·injection e1 with e1 e2 e3
  subst e1 e3
  refine⟨.inr ⟨g,0,rfl,(Array.getElem?_eq_some_iff.1 hg).1,fun j v hj=> ?_⟩,h1⟩
  have:=h.cells (g:=g) rfl j v hj
  rwa [Addr.add_lit] at this
theorem FnOwn.lies {W:World} {lo:Nat} {x:Cf×Fv} (h:FnOwn W lo x):LiesF W W.heap.size x:=
 ⟨(own_rowA h.1).1,(own_rowA h.2).1,(own_rowA h.1).2,(own_rowA h.2).2⟩
structure DcSt (w W0:World) (rb pb:Nat) (b:List UInt8) (vf vg:Value) (xs:List (Cf×Fv)) (gs:List ByteArray) (r:Drd) (W:World):Prop where
 rd:RdAt W0 rb b r W
 box:RBox W0 W pb (.cells #[vf,vg] 27 (0,0))
 res:W.heap[w.heap.size]? =some (.cells #[.slice none 0 0,.slice none 0 0] 27 (0,0))
 own1:W.ownsRow W0.heap.size 33 6 vf xs.length (xs.flatMap fnCells)
 own2:W.ownsRow W0.heap.size 9 1 vg gs.length (gs.map Value.string)
 fns:∀x∈xs,FnOwn W W0.heap.size x
 n1:∀g,vf.ownBlock=some g→g≠pb∧vg.ownBlock≠some g∧∀x∈xs,¬FnBlk x g
 n2:∀g,vg.ownBlock=some g→g≠pb∧∀x∈xs,¬FnBlk x g
 n3:∀x∈xs,∀g,FnBlk x g→g≠pb
 n4:w.heap.size<W0.heap.size
 n5:w.heap.size≠rb
section
variable {w W0 W W' W2:World} {rb pb g2 cap2:Nat} {b:List UInt8} {vf vg:Value} {xs:List (Cf×Fv)} {gs:List ByteArray} {r r':Drd} {o:Obj}
theorem DcSt.post (h:DcSt w W0 rb pb b vf vg xs gs r W) (hb:BrAt rb b r' W') (hf:RF rb W W'):DcSt w W0 rb pb b vf vg xs gs r' W':=by
 have ho:=h.rd.old
 refine⟨h.rd.post hb hf,h.box.post ho hf,(hf.block _ (Array.getElem?_eq_some_iff.1 h.res).1 (fun e=>h.n5 e)).trans h.res,own_keep h.own1 fun g hg=> ?_,own_keep h.own2 fun g hg=> ?_,fun x hx=>(h.fns x hx).keep fun g hg=> ?_,h.n1,h.n2,h.n3,h.n4,h.n5⟩
 ·have:=h.own1.lt g hg;exact hf.block g this.2 (by omega)
 ·have:=h.own2.lt g hg;exact hf.block g this.2 (by omega)
 ·have:=(h.fns x hx).lt hg;exact hf.block g this.2 (by omega)
theorem DcSt.drew (h:DcSt w W0 rb pb b vf vg xs gs r W):DcSt w W0 rb pb b vf vg xs gs r W.drew:=⟨h.rd.drew,h.box,h.res,h.own1,h.own2,h.fns,h.n1,h.n2,h.n3,h.n4,h.n5⟩
theorem DcSt.push2 (h:DcSt w W0 rb pb b vf vg xs gs r W) {s:ByteArray} (ho:W2.ownsRow W0.heap.size 9 1 (.slice (some ⟨g2,0,none⟩) (gs.length+1) cap2) (gs.length+1) (gs.map Value.string++ [.string s])) (hg:(W.alloc o).grownBy W2 vg.ownBlock) (hb:vg.ownBlock=some g2∨g2=(W.alloc o).heap.size):
  W2.heap[pb]? =some (.cells #[vf,vg] 27 (0,0))∧DcSt w W0 rb pb b vf (.slice (some ⟨g2,0,none⟩) (gs.length+1) cap2) xs (gs++ [s]) r (W2.setCell ⟨pb,1,none⟩ (.slice (some ⟨g2,0,none⟩) (gs.length+1) cap2)):=by
 have hvg:∀k,vg.ownBlock=some k→W0.heap.size≤k:=fun k hk=>(h.own2.lt k hk).1
 have hpb:=h.box.lt
 have hs:=h.rd.foot.size
 have hbox:W2.heap[pb]? =some (.cells #[vf,vg] 27 (0,0)):=(grown_keep hg hpb fun e=>(h.n2 _ e).1 rfl).trans h.box.1
 have hg2:g2≠pb∧vf.ownBlock≠some g2∧∀x∈xs,¬FnBlk x g2:=by
  rcases hb with e|e
  ·exact⟨(h.n2 g2 e).1,fun e2=>(h.n1 g2 e2).2.1 e,(h.n2 g2 e).2⟩
  ·rw[World.size_alloc] at e
   refine⟨by omega,fun e2=> ?_,fun x hx e2=> ?_⟩
   ·have:=(h.own1.lt _ e2).2;omega
   ·have:=((h.fns x hx).lt e2).2;omega
 have hset:∀k,k≠pb→(W2.setCell ⟨pb,1,none⟩ (.slice (some ⟨g2,0,none⟩) (gs.length+1) cap2)).heap[k]? =W2.heap[k]? :=fun k hk=>Below.heap_setCell W2 _ _ _ hk
 have hwl:=(Array.getElem?_eq_some_iff.1 h.res).1
 have hpl:=h.box.2
 have h4:=h.n4
 refine⟨hbox,(h.rd.grown hg hvg).set h.box.2 1 _,⟨heap_setCell_same _ _ 1 _ _ _ hbox,h.box.2⟩,(hset _ (by omega)).trans ((grown_keep hg hwl fun e=>by have:=hvg _ e;omega).trans h.res), ?_, ?_,fun x hx=>(h.fns x hx).keep fun g hgx=> ?_,fun g hgo=> ?_,fun g hgo=> ?_,h.n3,h.n4,h.n5⟩
 ·refine own_keep h.own1 fun g hgo=>(hset g (h.n1 g hgo).1).trans (grown_keep hg (h.own1.lt g hgo).2 fun e=>(h.n1 g hgo).2.1 e)
 ·rw[List.length_append,List.map_append]
  refine own_keep ho fun g hgo=> ?_
  simp only[Value.ownBlock,Option.some.injEq] at hgo
  subst hgo
  exact hset _ hg2.1
 ·exact(hset g (h.n3 x hx g hgx)).trans (grown_keep hg ((h.fns x hx).lt hgx).2 fun e=>(h.n2 g e).2 x hx hgx)
 ·refine⟨(h.n1 g hgo).1,fun e=> ?_,(h.n1 g hgo).2.2⟩
  simp only[Value.ownBlock,Option.some.injEq] at e
  subst e
  exact hg2.2.1 hgo
 ·simp only[Value.ownBlock,Option.some.injEq] at hgo
  subst hgo
  exact⟨hg2.1,hg2.2.2⟩
theorem DcSt.push1 {W1:World} (h:DcSt w W0 rb pb b vf vg xs gs r W) {x:Cf×Fv} (hx:FnOwn W W1.heap.size x) (hp:pb<W1.heap.size) (hl:W0.heap.size≤W1.heap.size) (hv1:∀g,vf.ownBlock=some g→g<W1.heap.size) (hv2:∀g,vg.ownBlock=some g→g<W1.heap.size)
  (ho:W2.ownsRow W0.heap.size 33 6 (.slice (some ⟨g2,0,none⟩) (xs.length+1) cap2) (xs.length+1) (xs.flatMap fnCells++fnCells x)) (hg:(W.alloc o).grownBy W2 vf.ownBlock) (hb:vf.ownBlock=some g2∨g2=(W.alloc o).heap.size):
  W2.heap[pb]? =some (.cells #[vf,vg] 27 (0,0))∧DcSt w W0 rb pb b (.slice (some ⟨g2,0,none⟩) (xs.length+1) cap2) vg (xs++ [x]) gs r (W2.setCell ⟨pb,0,none⟩ (.slice (some ⟨g2,0,none⟩) (xs.length+1) cap2)):=by
 have hvf:∀k,vf.ownBlock=some k→W0.heap.size≤k:=fun k hk=>(h.own1.lt k hk).1
 have hpb:=h.box.lt
 have hs:=h.rd.foot.size
 have hbox:W2.heap[pb]? =some (.cells #[vf,vg] 27 (0,0)):=(grown_keep hg hpb fun e=>(h.n1 _ e).1 rfl).trans h.box.1
 have hall:∀y∈xs++ [x],FnOwn W W0.heap.size y:=fun y hy=>by
  rcases List.mem_append.1 hy with hy|hy
  ·exact h.fns y hy
  ·rw[List.mem_singleton.1 hy]
   exact⟨Go.Joins.ownsRow_le hx.1 hl,Go.Joins.ownsRow_le hx.2 hl⟩
 have hn1:∀g,vf.ownBlock=some g→∀y∈xs++ [x],¬FnBlk y g:=fun g hgo y hy hyb=>by
  rcases List.mem_append.1 hy with hy|hy
  ·exact(h.n1 g hgo).2.2 y hy hyb
  ·rw[List.mem_singleton.1 hy] at hyb
   have:=(hx.lt hyb).1
   have:=hv1 g hgo
   omega
 have hn3:∀y∈xs++ [x],∀g,FnBlk y g→g≠pb:=fun y hy g hyb=>by
  rcases List.mem_append.1 hy with hy|hy
  ·exact h.n3 y hy g hyb
  ·rw[List.mem_singleton.1 hy] at hyb
   have:=(hx.lt hyb).1
   omega
 have hg2:g2≠pb∧vg.ownBlock≠some g2∧∀y∈xs++ [x],¬FnBlk y g2:=by
  rcases hb with e|e
  ·exact⟨(h.n1 g2 e).1,(h.n1 g2 e).2.1,hn1 g2 e⟩
  ·rw[World.size_alloc] at e
   refine⟨by omega,fun e2=> ?_,fun y hy e2=> ?_⟩
   ·have:=(h.own2.lt _ e2).2;omega
   ·have:=((hall y hy).lt e2).2;omega
 have hset:∀k,k≠pb→(W2.setCell ⟨pb,0,none⟩ (.slice (some ⟨g2,0,none⟩) (xs.length+1) cap2)).heap[k]? =W2.heap[k]? :=fun k hk=>Below.heap_setCell W2 _ _ _ hk
 have hwl:=(Array.getElem?_eq_some_iff.1 h.res).1
 have hpl:=h.box.2
 have h4:=h.n4
 refine⟨hbox,(h.rd.grown hg hvf).set h.box.2 0 _,⟨heap_setCell_same _ _ 0 _ _ _ hbox,h.box.2⟩,(hset _ (by omega)).trans ((grown_keep hg hwl fun e=>by have:=hvf _ e;omega).trans h.res), ?_, ?_,fun y hy=>(hall y hy).keep fun g hgx=> ?_,fun g hgo=> ?_,fun g hgo=>⟨(h.n2 g hgo).1,fun y hy hyb=> ?_⟩,hn3,h.n4,h.n5⟩
 ·rw[List.length_append,List.flatMap_append]
  simp only[List.flatMap_cons,List.flatMap_nil,List.append_nil]
  refine own_keep ho fun g hgo=> ?_
  simp only[Value.ownBlock,Option.some.injEq] at hgo
  subst hgo
  exact hset _ hg2.1
 ·refine own_keep h.own2 fun g hgo=>(hset g (h.n2 g hgo).1).trans (grown_keep hg (h.own2.lt g hgo).2 fun e=>(h.n1 g e).2.1 hgo)
 ·exact(hset g (hn3 y hy g hgx)).trans (grown_keep hg ((hall y hy).lt hgx).2 fun e=>hn1 g e y hy hgx)
 ·simp only[Value.ownBlock,Option.some.injEq] at hgo
  subst hgo
  exact hg2
 ·rcases List.mem_append.1 hy with hy|hy
  ·exact(h.n2 g hgo).2 y hy hyb
  ·rw[List.mem_singleton.1 hy] at hyb
   have:=(hx.lt hyb).1
   have:=hv2 g hgo
   omega
theorem DcSt.lies {p:Cp} (h1:W'.ownsRow W0.heap.size 33 6 vf xs.length (xs.flatMap fnCells)) (h2:W'.ownsRow W0.heap.size 9 1 vg gs.length (gs.map Value.string)) (h3:∀x∈xs,FnOwn W' W0.heap.size x) (hp:p=⟨xs.map Prod.fst,gs⟩):
  ∃n m fa fc ga gc,vf= .slice fa n fc∧vg= .slice ga m gc∧n≤fc∧m≤gc∧PgAt W' p n m fa ga xs:=by
 subst hp
 obtain⟨fa,fc,rfl,_,_⟩:=row_form h1
 obtain⟨ga,gc,rfl,_,_⟩:=row_form h2
 exact⟨_,_,fa,fc,ga,gc,rfl,rfl,(own_rowA h1).2,(own_rowA h2).2,by simp,rfl,rfl,(own_rowA h1).1,(own_rowA h2).1,fun x hx=>(h3 x hx).lies⟩
end
theorem RdS.first {lo:Nat} {W0 W W2:World} {pb g2 cap2 gc:Nat} {ga:Option Addr} {o:Obj} {A:Option Addr} {ic:Nat} (hl:Below lo W0 W) (hlo:lo≤W.heap.size) (hlp:lo≤pb) (hbx:W.heap[pb]? =some (.cells #[.slice none 0 0,.slice ga 0 gc] 27 (0,0)))
  (ho:W2.ownsRow lo 33 6 (.slice (some ⟨g2,0,none⟩) (0+1) cap2) (0+1) ([]++fnCells (rdF [],⟨A,ic,none,0⟩))) (hg:(W.alloc o).grownBy W2 (Value.ownBlock (.slice none 0 0))) (hb:Value.ownBlock (.slice none 0 0)=some g2∨g2=(W.alloc o).heap.size):
  (W2.cell? ⟨pb,0,none⟩=some (.slice none 0 0)∧W2.frozen? ⟨pb,0,none⟩=false)∧RdS lo W0 (W2.setCell ⟨pb,0,none⟩ (.slice (some ⟨g2,0,none⟩) 1 cap2)) pb g2 cap2 ga gc ⟨A,ic,none,0⟩ []:=by
 have hpl:=(Array.getElem?_eq_some_iff.1 hbx).1
 have hg2:g2=W.heap.size+1:=by
  rcases hb with h|h
  ·simp[Value.ownBlock] at h
  ·rwa [World.size_alloc] at h
 have hb2:=(grown_keep hg hpl (by simp[Value.ownBlock])).trans hbx
 have p0:=cell_of_row W2 pb 0 _ _ _ hb2
 simp only[gq] at p0
 refine⟨⟨p0,frozen_of_row W2 pb 0 _ _ hb2⟩, ?_,heap_setCell_same _ _ 0 _ _ _ hb2,ownsRow_setCell_other (by simpa using ho) (by simp[Value.ownBlock];omega) _,World.ownsRow_nil _ _ _ _,by omega,by simp[Value.ownBlock],by simp[Value.ownBlock],hlp⟩
 exact((hl.alloc hlo o).trans ⟨hg.os,hg.tape,hg.output,hg.size,fun k hk=>hg.block k (by rw[World.size_alloc];omega) (by simp[Value.ownBlock])⟩).setCell hlp _
def LsS (lo:Nat) (W0:World) (pb:Nat):Nat→World→Prop
 |0,W=>Below lo W0 W∧W.heap[pb]? =some (.cells #[.slice none 0 0,.slice none 0 0] 27 (0,0))
 |1,W=>Below lo W0 W∧∃ga gc,W.heap[pb]? =some (.cells #[.slice none 0 0,.slice ga 0 gc] 27 (0,0))
 |2,W=>∃g cap ga gc fv,RdS lo W0 W pb g cap ga gc fv []
 |3,W=>∃g cap ga gc fv,RdS lo W0 W pb g cap ga gc fv [⟨7,0,0,⟨#[]⟩,0⟩]
 |_,W=>∃g cap ga gc fv,RdS lo W0 W pb g cap ga gc fv [⟨7,0,0,⟨#[]⟩,0⟩,⟨50,0,0,⟨#[]⟩,0⟩]
theorem LsS.low {lo:Nat} {W0:World} {pb:Nat}:∀(k:Nat) {W:World},LsS lo W0 pb k W→Below lo W0 W
 |0,_,h=>h.1
 |1,_,h=>h.1
 |2,_,⟨_,_,_,_,_,h⟩=>h.low
 |3,_,⟨_,_,_,_,_,h⟩=>h.low
 |_+4,_,⟨_,_,_,_,_,h⟩=>h.low
theorem LsS.under {lo:Nat} {W0:World} {pb:Nat} (hp:lo≤pb):∀(k:Nat) {W W':World},LsS lo W0 pb k W→Below W.heap.size W W'→LsS lo W0 pb k W'
 |0,_,_,h,hb=>by
  have:=(Array.getElem?_eq_some_iff.1 h.2).1
  exact⟨h.1.trans (hb.mono (by omega)),(hb.block pb this).trans h.2⟩
 |1,_,_,h,hb=>by
  obtain⟨h1,ga,gc,h2⟩:=h
  have:=(Array.getElem?_eq_some_iff.1 h2).1
  exact⟨h1.trans (hb.mono (by omega)),ga,gc,(hb.block pb this).trans h2⟩
 |2,_,_,⟨g,cap,ga,gc,fv,h⟩,hb=>⟨g,cap,ga,gc,fv,h.under hb⟩
 |3,_,_,⟨g,cap,ga,gc,fv,h⟩,hb=>⟨g,cap,ga,gc,fv,h.under hb⟩
 |_+4,_,_,⟨g,cap,ga,gc,fv,h⟩,hb=>⟨g,cap,ga,gc,fv,h.under hb⟩
theorem lies_own {lo:Nat} {W:World} {g cap gc:Nat} {ga:Option Addr} {fv:Fv} (h1:W.ownsRow lo 33 6 (.slice (some ⟨g,0,none⟩) 1 cap) 1 (fnCells (leastF,fv))) (h2:W.ownsRow lo 36 5 (.slice fv.ca 2 fv.cc) 2 (leastF.code.flatMap insCells)):LiesC W W.heap.size least (.agg #[.slice (some ⟨g,0,none⟩) 1 cap,.slice ga 0 gc]):=by
 obtain⟨r1,c1⟩:=own_row h1
 obtain⟨r2,c2⟩:=own_row h2
 refine⟨some ⟨g,0,none⟩,cap,ga,gc,[(leastF,fv)],rfl,rfl, ?_,.inl rfl,c1,Nat.zero_le _,fun x hx=> ?_⟩
 ·rw[List.flatMap_cons,List.flatMap_nil,List.append_nil]
  exact r1
 rw[List.mem_singleton.1 hx]
 exact⟨.inl rfl,r2,Nat.zero_le _,c2⟩
theorem RdS.lies {lo:Nat} {W0 W:World} {pb g cap gc:Nat} {ga:Option Addr} {fv:Fv} (h:RdS lo W0 W pb g cap ga gc fv [⟨7,0,0,⟨#[]⟩,0⟩,⟨50,0,0,⟨#[]⟩,0⟩]):LiesC W W.heap.size least (.agg #[.slice (some ⟨g,0,none⟩) 1 cap,.slice ga 0 gc]):=lies_own h.fns h.ins
end Go.Proofs.YtagnicbknbmccaaGreatDoor
