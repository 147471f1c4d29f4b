/- code.List of any program. -/
import Derived.Test.YtagnicbknbmccaaGreatDoorMCwF
import Derived.Test.YtagnicbknbmccaaGreatDoorSqC
import Derived.Test.YtagnicbknbmccaaGreatDoorMMkL
import Derived.Test.YtagnicbknbmccaaGreatDoorMCxJ
import Derived.Test.YtagnicbknbmccaaGreatDoorEnB
import Derived.Test.YtagnicbknbmccaaGreatDoorMScanA
set_option maxRecDepth 100000
set_option maxHeartbeats 40000000
namespace Go.Proofs.YtagnicbknbmccaaGreatDoor
open Go.RowKit
theorem stringInfoL:(Tryz.prog.info? 9).map (fun i=>(i.zero,i.size,i.bytes))=some (some (.string ⟨#[]⟩),1,16):=by kernel_rfl
theorem cat_q (X Q:List UInt8):(⟨⟨X⟩⟩++(⟨#[32]⟩++⟨⟨Q⟩⟩)++⟨#[10]⟩:ByteArray).data.toList=(X++32::Q)++ [10]:=by simp
theorem tailL_none {x:Ci} (h:x.text.data.toList=[]):tailL x=[]:=by unfold tailL;rw[if_pos h]
theorem tailL_some {x:Ci} (h:x.text.data.toList≠ []):tailL x=32::(34::quoteL x.text.data.toList++ [34]):=by unfold tailL;rw[if_neg h]
def LisPost (w:World) (p:Cp) (e:Ending) (w':World):Prop:=Below w.heap.size w w'∧match rightC p with
 |some c=>∃b,e= .returned (.tuple #[.string ⟨#[]⟩,.iface 42 (.pointer (some ⟨b,0,none⟩))])∧w.heap.size≤b∧WrAt w' b c.code c.at_ c.ins
 |none=>e= .returned (.tuple #[.string ⟨(listL p).toArray⟩,.nilIface])
attribute [local go_sem] fieldFm0
theorem list_any {p:Cp} {nf mg fc gc:Nat} {fa ga:Option Addr} {xs:List (Cf×Fv)} {w:World} (hp:PgAt w p nf mg fa ga xs) (hc1:nf≤fc) (hc2:mg≤gc) (ht:Tame p) (hG:Gc w) (hlen:rightC p=none→(listL p).length≤80000000)
  (htx:∀f∈p.funcs,∀x∈f.code,x.text.size≤3000000):
  Calls Tryz.prog 13 #[.agg #[.slice fa nf fc,.slice ga mg gc]] w (LisPost w p):=by
 have HRT:Hid (∀W,Below w.heap.size w W→Calls Tryz.prog 11 #[.agg #[.slice fa nf fc,.slice ga mg gc]] W (RightPost W (rightC p))):=Lib.hid fun W hW=>right_all (hp.rise hW) hc1 hc2 ht (hG.up hW)
 have HB0:Hid (Below w.heap.size w (w.alloc (.cells #[.slice fa nf fc,.slice ga mg gc] 27 (0,0)))):=Lib.hid ((Below.refl _ _).alloc (Nat.le_refl _) _)
 have HP0:=Lib.hid (heap_alloc_new w (.cells #[.slice fa nf fc,.slice ga mg gc] 27 (0,0)))
 unfold LisPost
 cases hR:rightC p with
 |some c=>
  rw[hR] at HRT
  clear hR hp hG ht hlen
  go_enter Tryz.func13,Tryz.ntmps13
  go_wp2_with (go_at_call 11;refine(HRT.out _ HB0.out).mono ?_;rintro e w1 ⟨hb1,b,rfl,hl1,hw1⟩;have HB1:=Lib.hid (HB0.out.trans (hb1.mono HB0.out.size));have HBL:=Lib.hid (Nat.le_trans HB0.out.size hl1);have HW1:=Lib.hid hw1;clear hb1 hl1 hw1)
  go_ret2
  exact⟨HB1.out,b,rfl,HBL.out,HW1.out⟩
 |none=>
 have hlen:=hlen hR
 obtain⟨hb1,hb2,hb3⟩:=right_bounds hR ht.sum
 rw[hp.fn] at hb1
 rw[hp.gn] at hb2
 rw[hR] at HRT
 have HBD:=Lib.hid hb3
 have HTX:=Lib.hid htx
 have HGc:=Lib.hid hG
 obtain⟨T,hT⟩:∃T,listL p=T:=⟨_,rfl⟩
 obtain⟨J,hJ⟩:∃J,Lib.join (([103,108,111,98,97,108,115]:List UInt8)::p.globals.map fun s=>s.data.toList) [32]=J:=⟨_,rfl⟩
 have HT:Hid ((J++ [10])++p.funcs.flatMap funcL=T):=Lib.hid (by rw[←hT,listL_eq,hJ])
 rw[hT] at hlen⊢
 have hJl:J.length≤80000000:=by
  have:=congrArg List.length HT.out
  simp only[List.length_append] at this
  omega
 have HNF:=Lib.hid hp.fn
 have HMG:=Lib.hid hp.gn
 have HGR:Hid (∀W,Below w.heap.size w W→RowIs W W.heap.size ga (p.globals.map Value.string)):=Lib.hid fun W hW=>(hp.gr.keep hW.block).more hW.size
 have HJN:Hid (∀(W:World) (bk cap:Nat),bk<W.heap.size→1+mg≤cap→(∀j v,(Value.string ⟨#[103,108,111,98,97,108,115]⟩::p.globals.map Value.string)[j]? =some v→W.cell? ⟨bk,0+j,none⟩=some v)→Calls Tryz.prog 42 #[.slice (some ⟨bk,0,none⟩) (1+mg) cap,.string ⟨#[32]⟩] W fun e w'=>e= .returned (.string ⟨⟨J⟩⟩)∧Below W.heap.size W w'):=Lib.hid fun W bk cap h1 h2 h3=>by
  have hl:((⟨#[103,108,111,98,97,108,115]⟩:ByteArray)::p.globals).length=1+mg:=by rw[List.length_cons,hp.gn];omega
  have:=Tryz.strings_Join bk 0 cap (⟨#[103,108,111,98,97,108,115]⟩::p.globals) ⟨#[32]⟩ W (fun j x hj=>h3 j _ (by rw[←List.map_cons,List.getElem?_map,hj];rfl)) h1 (by omega) (by omega) (by
   have e:(((⟨#[103,108,111,98,97,108,115]⟩:ByteArray)::p.globals).map (·.data.toList))=([103,108,111,98,97,108,115]:List UInt8)::p.globals.map fun s=>s.data.toList:=rfl
   rw[e]
   show(Lib.join _ [32]).length≤_
   rw[hJ];omega)
  rw[hl] at this
  rw[show J=Lib.join (((⟨#[103,108,111,98,97,108,115]⟩:ByteArray)::p.globals).map (·.data.toList)) (⟨#[32]⟩:ByteArray).data.toList from hJ.symm]
  exact this
 have HFN:Hid (∀i f,p.funcs[i]? =some f→∃g q fv,fa=some ⟨g,q,none⟩∧LiesF w w.heap.size (f,fv)∧∀W,Below w.heap.size w W→HeadAt W g q i nf f.name f.params f.slots f.around fv.ta f.taken.length fv.tc fv.ca f.code.length fv.cc):=Lib.hid fun i f hf=>headAllE hp hf
 have HOK:=Lib.hid ht.ok
 have HML:Hid ((p.globals.map Value.string).length=mg):=Lib.hid (by rw[List.length_map];exact hp.gn)
 have hnbJ:¬(9223372036854775807<J.length+1):=by omega
 have HLJ:Hid (([]:List UInt8).length+(⟨⟨J⟩⟩++⟨#[10]⟩:ByteArray).size≤100000000):=Lib.hid (by rw[ByteArray.size_append];show 0+(J.length+1)≤100000000;omega)
 clear hp ht hG hT hR hb3 hJ htx
 go_enter Tryz.func13,Tryz.ntmps13
 go_upto_region 5 with(go_at_call 11;refine(HRT.out _ HB0.out).mono ?_;rintro e w1 ⟨hb1,rfl⟩;have hB1:=HB0.out.trans (hb1.mono HB0.out.size);have hP1:=(hb1.block _ (Array.getElem?_eq_some_iff.1 HP0.out).1).trans HP0.out;have HB1:=Lib.hid hB1;have HP1:=Lib.hid hP1;clear hB1 hP1 hb1)
 have HBd:=Lib.hid (bd_new HB1.out)
 have HXpb:Hid (BxAt (w1.alloc (.cells #[.pointer none,.slice none 0 0] 80 (0,0))) w1.heap.size (.slice none 0 0) w.heap.size (.cells #[.slice fa nf fc,.slice ga mg gc] 27 (0,0))):=Lib.hid ⟨(heap_alloc_old _ _ (Array.getElem?_eq_some_iff.1 HP1.out).1).trans HP1.out,fun e=>by have:=(Array.getElem?_eq_some_iff.1 HP1.out).1;omega,by simp[Value.ownBlock]⟩
 obtain⟨W2,hW2⟩:∃W2,w1.alloc (.cells #[.pointer none,.slice none 0 0] 80 (0,0))=W2:=⟨_,rfl⟩
 obtain⟨b,hb⟩:∃b,w1.heap.size=b:=⟨_,rfl⟩
 simp only[hW2,hb] at HBd HXpb⊢
 have hXa:=HXpb.out.alloc (.cells #[.string ⟨#[103,108,111,98,97,108,115]⟩] 9 (0,0))
 have p1:=cell_of_row _ w.heap.size 1 _ _ _ hXa.1
 simp only[gq] at p1
 have HXa:=Lib.hid hXa
 have HBa:=Lib.hid (HBd.out.alloc (.cells #[.string ⟨#[103,108,111,98,97,108,115]⟩] 9 (0,0)))
 have HC0:Hid ((W2.alloc (.cells #[.string ⟨#[103,108,111,98,97,108,115]⟩] 9 (0,0))).cell? ⟨W2.heap.size,0,none⟩=some (.string ⟨#[103,108,111,98,97,108,115]⟩)):=Lib.hid (cell_of_row _ _ 0 _ _ _ (heap_alloc_new W2 _))
 clear hXa hW2
 obtain⟨js,hjs,hjz,hj1,hj2⟩:=info_parts stringInfoL
 go_wp2_with (first
  |(at_builtin;refine wpList_append_row _ rfl _ _ 25 rfl 9 js _ Tryz.underlying25 hjs hjz hj1 hj2 W2.heap.size _ rfl HC0.out ga mg gc rfl _ HML.out (HGR.out _ HBa.out.low) (by omega) ?_;intro bk cap w2 hb2 hbk hcap hcc;have HBb:=Lib.hid (HBa.out.under hb2);have HXb:=Lib.hid (HXa.out.under hb2);have HCC:=Lib.hid hcc;clear hb2 hcc)
  |(go_at_call 42;refine(HJN.out _ _ _ hbk hcap HCC.out).mono ?_;rintro e w3 ⟨rfl,hb3⟩;have HBb:=Lib.hid (HBb.out.under hb3);have HXb:=Lib.hid (HXb.out.under hb3);clear hb3)
  |(go_at_call 41;refine(writeString_any HBb.out _ HLJ.out).mono ?_;rintro e w4 ⟨rfl,v3,hb4,hx4⟩;rw[cat_nl,List.nil_append] at hb4;have HBc:=Lib.hid hb4;have HXc:=Lib.hid (hx4 _ _ HXb.out);have p0:=cell_of_row w4 _ 0 _ _ _ HXc.out.1;simp only[gq] at p0;clear hb4 hx4))
 clear HBa HXa HBd HXpb HBb HXb p0 p1 HCC HC0 HJN HGR HLJ
 go_loopw [27] (fun i wr=>∃(q:Nat) (b1:List UInt8) (v:Value),i= .int .i64 q∧q≤nf∧Hid (BdAt w wr b v b1)∧Hid (BxAt wr b v w.heap.size (.cells #[.slice fa nf fc,.slice ga mg gc] 27 (0,0)))∧Hid (b1++(p.funcs.drop q).flatMap funcL=T)) (fun i _=>nf-(intOf i).toNat)
 case atStart=>exact⟨0,_,_,rfl,Nat.zero_le _,HBc,HXc,HT⟩
 case round=>
  clear HBc HXc
  obtain⟨q,B,v4,rfl,hqn,HBd,HXpb,HQ⟩:=hrel
  by_cases hltq:q<nf
  ·obtain⟨f,hf⟩:∃f,p.funcs[q]? =some f:=⟨_,List.getElem?_eq_getElem (by rw[HNF.out];exact hltq)⟩
   obtain⟨g,off,fv,rfl,hown,hA⟩:=HFN.out q f hf
   obtain⟨hcl,htl0⟩:=HBD.out f (List.mem_of_getElem? hf)
   have HTF:=Lib.hid (HTX.out f (List.mem_of_getElem? hf))
   have HFO:=Lib.hid (HOK.out.2.2.1 f (List.mem_of_getElem? hf))
   have HOWN:=Lib.hid hown
   have hA5:=hA wr HBd.out.low
   obtain⟨n,hn⟩:∃n,f.code.length=n:=⟨_,rfl⟩
   obtain⟨t,ht⟩:∃t,f.taken.length=t:=⟨_,rfl⟩
   have HN:=Lib.hid hn
   have HTL:=Lib.hid ht
   rw[hn,ht] at hA5
   rw[hn] at hcl
   rw[ht] at htl0
   have hg:=hA5.lt
   have x0:=hA5.x0
   have x1:=hA5.x1
   have x2:=hA5.x2
   have x3:=hA5.x3
   have x4:=hA5.x4
   have x5:=hA5.x5
   have hq0:=HQ.out
   rw[drop_cons hf,List.flatMap_cons] at hq0
   obtain⟨R,hRR⟩:∃R,(p.funcs.drop (q+1)).flatMap funcL=R:=⟨_,rfl⟩
   have HRR:=Lib.hid hRR
   rw[hRR,funcL_eq] at hq0
   obtain⟨N,hNN⟩:∃N,(if f.name.data.toList=[] then([45]:List UInt8) else f.name.data.toList)=N:=⟨_,rfl⟩
   have hhd:headL f=[102,117,110,99,32]++N:=by unfold headL;rw[hNN]
   rw[hhd] at hq0
   obtain⟨X1,hX1⟩:∃X1,wordsL ([102,117,110,99,32]++N) [f.params,f.slots,f.around]=X1:=⟨_,rfl⟩
   rw[hX1] at hq0
   obtain⟨X2,hX2⟩:∃X2,wordsL X1 f.taken=X2:=⟨_,rfl⟩
   rw[hX2] at hq0
   have HQ0:=Lib.hid hq0
   have hlq:=congrArg List.length hq0
   simp only[List.length_append,List.length_cons,List.length_nil] at hlq
   have hw1:=wordsL_le ([102,117,110,99,32]++N) [f.params,f.slots,f.around]
   rw[hX1] at hw1
   have hw2:=wordsL_le X1 f.taken
   rw[hX2] at hw2
   simp only[List.length_append,List.length_cons,List.length_nil] at hw1
   have hfa:∀z∈ [f.params,f.slots,f.around],okI z:=by
    intro z hz
    rcases List.mem_cons.1 hz with rfl|hz
    ·exact HFO.out.2.1
    rcases List.mem_cons.1 hz with rfl|hz
    ·exact HFO.out.2.2.1
    rw[List.mem_singleton.1 hz]
    exact HFO.out.2.2.2.1
   have HW1:Hid (∀(W:World) {rb:Nat},Below w.heap.size w W→RowIs W W.heap.size (some ⟨rb,0,none⟩) ([f.params,f.slots,f.around].map (Value.int .i64))→Calls Tryz.prog 43 #[.string (⟨#[102,117,110,99,32]⟩++⟨⟨N⟩⟩),.slice (some ⟨rb,0,none⟩) 3 3] W fun e w'=>e= .returned (.string ⟨⟨X1⟩⟩)∧Below W.heap.size W w'):=Lib.hid fun W rb hb hr=>by
    have:=words_any (cap:=3) (m:=3) (HGc.out.up hb) ([102,117,110,99,32]++N) rfl hr hfa (by simp only[List.length_append,List.length_cons,List.length_nil];omega)
    rw[hX1] at this
    rw[show(⟨#[102,117,110,99,32]⟩++⟨⟨N⟩⟩:ByteArray)=⟨⟨[102,117,110,99,32]++N⟩⟩ from toList_inj (by simp[ByteArray.toList_eq])]
    exact this
   have HW2:Hid (∀(W:World),Below w.heap.size w W→Calls Tryz.prog 43 #[.string ⟨⟨X1⟩⟩,.slice fv.ta t fv.tc] W fun e w'=>e= .returned (.string ⟨⟨X2⟩⟩)∧Below W.heap.size W w'):=Lib.hid fun W hb=>by
    have:=words_any (w:=W) (HGc.out.up hb) X1 (A:=fv.ta) (l:=f.taken) (cap:=fv.tc) (m:=t) HTL.out ((hown.1.keep hb.block).more hb.size) HFO.out.2.2.2.2.2.2.1 (by omega)
    rw[hX2] at this
    exact this
   have HLW:Hid (B.length+(⟨⟨X2⟩⟩++⟨#[10]⟩:ByteArray).size≤100000000):=Lib.hid (by rw[ByteArray.size_append];show B.length+(X2.length+1)≤100000000;omega)
   have hnb:¬(9223372036854775807<X2.length+1):=by omega
   have hnbN:¬(9223372036854775807<5+N.length):=by omega
   have hnbN2:¬(9223372036854775807<N.length+5):=by omega
   have HNN:=Lib.hid hNN
   clear hA hf hown hA5 hn ht hq0 hRR HQ hfa hX1 hX2 hhd hNN hlq hw1 hw2
   go_upto_if 34 with fail
   have HXpb:=Lib.hid (HXpb.out.alloc (.cells #[.string f.name,.int .i64 f.params,.int .i64 f.slots,.slice fv.ta t fv.tc,.int .i64 f.around,.slice fv.ca n fv.cc] 33 (0,0)))
   have HXfb:=Lib.hid (HBd.out.bx (.cells #[.string f.name,.int .i64 f.params,.int .i64 f.slots,.slice fv.ta t fv.tc,.int .i64 f.around,.slice fv.ca n fv.cc] 33 (0,0)))
   have HBd:=Lib.hid (HBd.out.alloc (.cells #[.string f.name,.int .i64 f.params,.int .i64 f.slots,.slice fv.ta t fv.tc,.int .i64 f.around,.slice fv.ca n fv.cc] 33 (0,0)))
   obtain⟨fb,hfb⟩:∃fb,wr.heap.size=fb:=⟨_,rfl⟩
   obtain⟨W3,hW3⟩:∃W3,wr.alloc (.cells #[.string f.name,.int .i64 f.params,.int .i64 f.slots,.slice fv.ta t fv.tc,.int .i64 f.around,.slice fv.ca n fv.cc] 33 (0,0))=W3:=⟨_,rfl⟩
   simp only[hW3,hfb] at HBd HXpb HXfb⊢
   clear hW3 hfb x0 x1 x2 x3 x4 x5
   go_cut [8] (fun s8 wx=>s8= .string ⟨⟨N⟩⟩∧wx=W3)
   case first=>
    go_wp2_with fail
    all_goals
     go_meet
     refine⟨?_,rfl⟩
     rename_i hz
     rw[ByteArray.toList_eq] at hz
     rw[←HNN.out]
     first
      |rw[if_pos (by simpa using hz)]
      |rw[if_neg (by simpa using hz)]
   case rest=>
    obtain⟨rfl,rfl⟩:=hcut
    go_upto_region 12 with fail
    go_cut [] (fun wx=>∃v,Hid (BdAt w wx b v (B++(X2++ [10])))∧Hid (BxAt wx b v w.heap.size (.cells #[.slice (some ⟨g,off,none⟩) nf fc,.slice ga mg gc] 27 (0,0)))∧Hid (BxAt wx b v fb (.cells #[.string f.name,.int .i64 f.params,.int .i64 f.slots,.slice fv.ta t fv.tc,.int .i64 f.around,.slice fv.ca n fv.cc] 33 (0,0))))
    case first=>
     have HBd:=Lib.hid HBd.out.drew
     have HXpb:=Lib.hid (show BxAt wc.drew b v4 w.heap.size (.cells #[.slice (some ⟨g,off,none⟩) nf fc,.slice ga mg gc] 27 (0,0)) from HXpb.out)
     have HXfb:=Lib.hid (show BxAt wc.drew b v4 fb (.cells #[.string f.name,.int .i64 f.params,.int .i64 f.slots,.slice fv.ta t fv.tc,.int .i64 f.around,.slice fv.ca n fv.cc] 33 (0,0)) from HXfb.out)
     obtain⟨y1,y2,y3,y4⟩:wc.drew.cell? ⟨fb,1,none⟩=some (.int .i64 f.params)∧wc.drew.cell? ⟨fb,2,none⟩=some (.int .i64 f.slots)∧wc.drew.cell? ⟨fb,3,none⟩=some (.slice fv.ta t fv.tc)∧wc.drew.cell? ⟨fb,4,none⟩=some (.int .i64 f.around):=⟨cell_of_row _ fb 1 _ _ _ HXfb.out.1,cell_of_row _ fb 2 _ _ _ HXfb.out.1,cell_of_row _ fb 3 _ _ _ HXfb.out.1,cell_of_row _ fb 4 _ _ _ HXfb.out.1⟩
     refine wp_region_G [] (fun y=>y.cell? ⟨fb,1,none⟩=some (.int .i64 f.params)∧y.cell? ⟨fb,2,none⟩=some (.int .i64 f.slots)∧y.cell? ⟨fb,3,none⟩=some (.slice fv.ta t fv.tc)∧y.cell? ⟨fb,4,none⟩=some (.int .i64 f.around)) (by rfl) ?_ (fun hHeld=> ?_)
     ·exact⟨y1,y2,y3,y4⟩
     generalize hwd:World.drew wc=wd at HBd HXpb HXfb y1 y2 y3 y4 hHeld⊢
     refine tk 0 (h:=tk 1 (h:=tk 2 (h:=tk 3 (h:=tk 4 (h:=tk 5 (h:= ?_))))))
     try simp only[nmC]
     refine tk 6 (h:=tk 7 (h:=tk 10 (h:=tk 11 (h:= ?_))))
     try simp only[nmC]
     refine rd1 8 fun KK hKK=> ?_
     go_simp
     obtain⟨wb,ab,eW,eA,hBd,hX,hbx⟩:=HBd.out.built (.cells #[.int .i64 f.params,.int .i64 f.slots,.int .i64 f.around] 3 (0,0))
     simp only[eW,eA]
     clear eW eA
     have HXr:=Lib.hid hX
     have HXpb:=Lib.hid (hbx _ _ HXpb.out)
     have HXfb:=Lib.hid (hbx _ _ HXfb.out)
     have HBd:=Lib.hid hBd
     clear hBd hX hbx
     have y1:=cell_of_row _ fb 1 _ _ _ HXfb.out.1
     have y2:=cell_of_row _ fb 2 _ _ _ HXfb.out.1
     have y3:=cell_of_row _ fb 3 _ _ _ HXfb.out.1
     have y4:=cell_of_row _ fb 4 _ _ _ HXfb.out.1
     simp only[gq] at y1 y2 y3 y4
     refine hKK.out _ _ (⟨y1,y2,y3,y4⟩) (fun hHeld=> ?_)
     clear hKK KK
     try simp only[nmC]
     refine rd1 9 fun KK hKK=> ?_
     go_simp
     go_at_call 43
     refine(HW1.out _ HBd.out.low (HBd.out.row HXr.out rfl)).mono ?_
     rintro e wz ⟨rfl,hbz⟩
     have HXpb:=Lib.hid (HXpb.out.under hbz)
     have HXfb:=Lib.hid (HXfb.out.under hbz)
     have HXr:=Lib.hid (HXr.out.under hbz)
     have HBd:=Lib.hid (HBd.out.under hbz)
     clear hbz
     try dsimp only
     have y1:=cell_of_row _ fb 1 _ _ _ HXfb.out.1
     have y2:=cell_of_row _ fb 2 _ _ _ HXfb.out.1
     have y3:=cell_of_row _ fb 3 _ _ _ HXfb.out.1
     have y4:=cell_of_row _ fb 4 _ _ _ HXfb.out.1
     simp only[gq] at y1 y2 y3 y4
     refine hKK.out _ _ (⟨y1,y2,y3,y4⟩) (fun hHeld=> ?_)
     clear hKK KK
     try simp only[nmC]
     refine rd1 12 fun KK hKK=> ?_
     go_simp
     go_at_call 43
     refine(HW2.out _ HBd.out.low).mono ?_
     rintro e wz ⟨rfl,hbz⟩
     have HXpb:=Lib.hid (HXpb.out.under hbz)
     have HXfb:=Lib.hid (HXfb.out.under hbz)
     have HXr:=Lib.hid (HXr.out.under hbz)
     have HBd:=Lib.hid (HBd.out.under hbz)
     clear hbz
     try dsimp only
     have y1:=cell_of_row _ fb 1 _ _ _ HXfb.out.1
     have y2:=cell_of_row _ fb 2 _ _ _ HXfb.out.1
     have y3:=cell_of_row _ fb 3 _ _ _ HXfb.out.1
     have y4:=cell_of_row _ fb 4 _ _ _ HXfb.out.1
     simp only[gq] at y1 y2 y3 y4
     refine hKK.out _ _ (⟨y1,y2,y3,y4⟩) (fun hHeld=> ?_)
     clear hKK KK
     try simp only[nmC]
     refine tk 13 (h:= ?_)
     try simp only[nmC]
     refine rd1 14 fun KK hKK=> ?_
     go_simp
     go_at_call 41
     refine(writeString_any HBd.out _ HLW.out).mono ?_
     rintro e wz ⟨rfl,vz,hbz,hxz⟩
     have HXpb:=Lib.hid (hxz _ _ HXpb.out)
     have HXfb:=Lib.hid (hxz _ _ HXfb.out)
     have HBd:=Lib.hid hbz
     clear hbz hxz
     try dsimp only
     have y1:=cell_of_row _ fb 1 _ _ _ HXfb.out.1
     have y2:=cell_of_row _ fb 2 _ _ _ HXfb.out.1
     have y3:=cell_of_row _ fb 3 _ _ _ HXfb.out.1
     have y4:=cell_of_row _ fb 4 _ _ _ HXfb.out.1
     simp only[gq] at y1 y2 y3 y4
     refine hKK.out _ _ (⟨y1,y2,y3,y4⟩) (fun hHeld=> ?_)
     clear hKK KK
     try simp only[nmC]
     refine wpAnyG_done (by kernel_rfl) ?_ _
     rw[cat_nl] at HBd
     try go_wp2_with fail
     go_meet
     exact⟨_,HBd,HXpb,HXfb⟩
    case rest=>
     clear HBd HXpb HXfb HLW hnb hnbN hnbN2
     obtain⟨v5,HBd,HXpb,HXfb⟩:=hcut
     have y5:=cell_of_row wc fb 5 _ _ _ HXfb.out.1
     simp only[gq] at y5
     go_wp2_with fail
     go_loopw [53,11] (fun i s11 wr=>∃(k:Nat) (b1:List UInt8) (v:Value),i= .int .i64 k∧k≤n∧Hid (BdAt w wr b v b1)∧Hid (BxAt wr b v w.heap.size (.cells #[.slice (some ⟨g,off,none⟩) nf fc,.slice ga mg gc] 27 (0,0)))∧Hid (BxAt wr b v fb (.cells #[.string f.name,.int .i64 f.params,.int .i64 f.slots,.slice fv.ta t fv.tc,.int .i64 f.around,.slice fv.ca n fv.cc] 33 (0,0)))∧Hid (b1++((f.code.drop k).flatMap instL++R)=T)) (fun i _ _=>n-(intOf i).toNat)
     case atStart=>exact⟨0,_,_,rfl,Nat.zero_le _,HBd,HXpb,HXfb,HQ0⟩
     case round=>
      clear HBd HXpb HXfb y5 HQ0
      obtain⟨k,b1,v6,rfl,hk,HBd,HXpb,HXfb,HQ⟩:=hrel
      by_cases hlt:k<n
      ·obtain⟨x,hx⟩:∃x,f.code[k]? =some x:=⟨_,List.getElem?_eq_getElem (by rw[HN.out];exact hlt)⟩
       have hq:=HQ.out
       have htx:=HTF.out x (List.mem_of_getElem? hx)
       rw[drop_cons hx,List.flatMap_cons,List.append_assoc,instL_eq] at hq
       have hxo:=HFO.out.2.2.2.2.2.2.2 x (List.mem_of_getElem? hx)
       obtain⟨_,hcr,_,_⟩:=HOWN.out
       obtain⟨ca,co,hca,hcb,hcc⟩:=hcr.at (by rw[flat_len ins_len];have:=HN.out;show 0<f.code.length*5;omega)
       dsimp only at hca
       obtain⟨x0,x1,x2,x3,x4⟩:=ins_at hcc hx
       have hkb:∀o,wr.cell? ⟨ca,o,none⟩=w.cell? ⟨ca,o,none⟩:=fun o=>World.cell?_of_block (w:=w) (a:=⟨ca,o,none⟩) (HBd.out.low.block ca hcb)
       rw[←hkb] at x0 x1 x2 x3 x4
       have hk4:∀z∈ [x.a,x.b,x.at_],okI z:=by
        intro z hz
        rcases List.mem_cons.1 hz with rfl|hz
        ·exact hxo.2.1
        rcases List.mem_cons.1 hz with rfl|hz
        ·exact hxo.2.2.1
        rw[List.mem_singleton.1 hz]
        exact hxo.2.2.2.1
       obtain⟨X3,hX3⟩:∃X3,wordsL (9::(formOf x.op).word) [x.a,x.b,x.at_]=X3:=⟨_,rfl⟩
       rw[hX3] at hq
       have HQ2:=Lib.hid hq
       have hlq:=congrArg List.length hq
       simp only[List.length_append,List.length_cons,List.length_nil] at hlq
       have hwl:(formOf x.op).word.length+1≤X3.length:=by
        have:=congrArg List.length hX3
        simp only[wordsL,List.length_append,List.length_cons] at this
        omega
       have HW3:Hid (∀(W:World) {rb:Nat},Below w.heap.size w W→RowIs W W.heap.size (some ⟨rb,0,none⟩) ([x.a,x.b,x.at_].map (Value.int .i64))→Calls Tryz.prog 43 #[.string (⟨#[9]⟩++⟨⟨(formOf x.op).word⟩⟩),.slice (some ⟨rb,0,none⟩) 3 3] W fun e w'=>e= .returned (.string ⟨⟨X3⟩⟩)∧Below W.heap.size W w'):=Lib.hid fun W rb hb hr=>by
        have:=words_any (cap:=3) (m:=3) (HGc.out.up hb) (9::(formOf x.op).word) rfl hr hk4 (by simp only[List.length_cons];omega)
        rw[hX3] at this
        exact this
       have hnb2:¬(9223372036854775807<1+(formOf x.op).word.length):=by omega
       have hnb4:¬(9223372036854775807<(formOf x.op).word.length+1):=by omega
       have HL3:Hid (b1.length+(X3.length+(tailL x).length+1)≤80000000):=Lib.hid (by omega)
       obtain⟨F,hF⟩:∃F,formOf x.op=F:=⟨_,rfl⟩
       have HFC:=Lib.hid (forms_call x.op)
       rw[hF] at HW3 hnb2 hnb4 HFC
       clear hx hq hxo hcr hcc hkb hk4 hX3 hlq hwl hF
       go_upto_region 16 with fail
       have HXpb:=Lib.hid (HXpb.out.alloc (.cells #[.int .i64 x.op,.int .i64 x.a,.int .i64 x.b,.string x.text,.int .i64 x.at_] 36 (0,0)))
       have HXfb:=Lib.hid (HXfb.out.alloc (.cells #[.int .i64 x.op,.int .i64 x.a,.int .i64 x.b,.string x.text,.int .i64 x.at_] 36 (0,0)))
       have HXxb:=Lib.hid (HBd.out.bx (.cells #[.int .i64 x.op,.int .i64 x.a,.int .i64 x.b,.string x.text,.int .i64 x.at_] 36 (0,0)))
       have HBd:=Lib.hid (HBd.out.alloc (.cells #[.int .i64 x.op,.int .i64 x.a,.int .i64 x.b,.string x.text,.int .i64 x.at_] 36 (0,0)))
       obtain⟨xb,hxb⟩:∃xb,wr.heap.size=xb:=⟨_,rfl⟩
       obtain⟨W4,hW4⟩:∃W4,wr.alloc (.cells #[.int .i64 x.op,.int .i64 x.a,.int .i64 x.b,.string x.text,.int .i64 x.at_] 36 (0,0))=W4:=⟨_,rfl⟩
       simp only[hW4,hxb] at HBd HXpb HXfb HXxb⊢
       clear hW4 hxb x0 x1 x2 x3 x4
       clear HB0 HP0 HT hca hg HFN HOK HRT HQ
       go_cut [11] (fun s11 wx=>s11= .string ⟨⟨X3⟩⟩∧∃v,Hid (BdAt w wx b v b1)∧Hid (BxAt wx b v w.heap.size (.cells #[.slice (some ⟨g,off,none⟩) nf fc,.slice ga mg gc] 27 (0,0)))∧Hid (BxAt wx b v fb (.cells #[.string f.name,.int .i64 f.params,.int .i64 f.slots,.slice fv.ta t fv.tc,.int .i64 f.around,.slice fv.ca n fv.cc] 33 (0,0)))∧Hid (BxAt wx b v xb (.cells #[.int .i64 x.op,.int .i64 x.a,.int .i64 x.b,.string x.text,.int .i64 x.at_] 36 (0,0))))
       case first=>
        have HBd:=Lib.hid HBd.out.drew
        have HXpb:=Lib.hid (show BxAt W4.drew b v6 w.heap.size (.cells #[.slice (some ⟨g,off,none⟩) nf fc,.slice ga mg gc] 27 (0,0)) from HXpb.out)
        have HXfb:=Lib.hid (show BxAt W4.drew b v6 fb (.cells #[.string f.name,.int .i64 f.params,.int .i64 f.slots,.slice fv.ta t fv.tc,.int .i64 f.around,.slice fv.ca n fv.cc] 33 (0,0)) from HXfb.out)
        have HXxb:=Lib.hid (show BxAt W4.drew b v6 xb (.cells #[.int .i64 x.op,.int .i64 x.a,.int .i64 x.b,.string x.text,.int .i64 x.at_] 36 (0,0)) from HXxb.out)
        obtain⟨y0,y1,y2,y4⟩:W4.drew.cell? ⟨xb,0,none⟩=some (.int .i64 x.op)∧W4.drew.cell? ⟨xb,1,none⟩=some (.int .i64 x.a)∧W4.drew.cell? ⟨xb,2,none⟩=some (.int .i64 x.b)∧W4.drew.cell? ⟨xb,4,none⟩=some (.int .i64 x.at_):=⟨cell_of_row _ xb 0 _ _ _ HXxb.out.1,cell_of_row _ xb 1 _ _ _ HXxb.out.1,cell_of_row _ xb 2 _ _ _ HXxb.out.1,cell_of_row _ xb 4 _ _ _ HXxb.out.1⟩
        refine wp_region_G [] (fun y=>y.cell? ⟨xb,0,none⟩=some (.int .i64 x.op)∧y.cell? ⟨xb,1,none⟩=some (.int .i64 x.a)∧y.cell? ⟨xb,2,none⟩=some (.int .i64 x.b)∧y.cell? ⟨xb,4,none⟩=some (.int .i64 x.at_)) (by rfl) ?_ (fun hHeld=> ?_)
        ·exact⟨y0,y1,y2,y4⟩
        generalize hwd:World.drew W4=wd at HBd HXpb HXfb HXxb y0 y1 y2 y4 hHeld⊢
        refine tk 0 (h:=tk 1 (h:=tk 5 (h:=tk 6 (h:=tk 7 (h:=tk 8 (h:= ?_))))))
        try simp only[nmC]
        refine tk 9 (h:=tk 10 (h:= ?_))
        try simp only[nmC]
        refine rd2 2 11 (fun KK hKK=> ?_) fun KK hKK=> ?_
        ·go_simp
         go_at_call 44
         refine(HFC.out _).mono ?_
         rintro e wz ⟨rfl,hbz⟩
         have HXpb:=Lib.hid (HXpb.out.under hbz)
         have HXfb:=Lib.hid (HXfb.out.under hbz)
         have HXxb:=Lib.hid (HXxb.out.under hbz)
         have HBd:=Lib.hid (HBd.out.under hbz)
         clear hbz
         try dsimp only
         obtain⟨y0,y1,y2⟩:=cr3 _ xb HXxb.out.1
         have y4:=cell_of_row _ xb 4 _ _ _ HXxb.out.1
         simp only[gq] at y0 y1 y2 y4
         refine hKK.out _ _ (⟨y0,y1,y2,y4⟩) (fun hHeld=> ?_)
         clear hKK KK
         try simp only[nmC]
         refine tk 3 (h:=tk 4 (h:= ?_))
         try simp only[nmC]
         refine rd1 11 fun KK hKK=> ?_
         go_simp
         obtain⟨wb,ab,eW,eA,hBd,hX,hbx⟩:=HBd.out.built (.cells #[.int .i64 x.a,.int .i64 x.b,.int .i64 x.at_] 3 (0,0))
         simp only[eW,eA]
         clear eW eA
         have HXr:=Lib.hid hX
         have HXpb:=Lib.hid (hbx _ _ HXpb.out)
         have HXfb:=Lib.hid (hbx _ _ HXfb.out)
         have HXxb:=Lib.hid (hbx _ _ HXxb.out)
         have HBd:=Lib.hid hBd
         clear hBd hX hbx
         obtain⟨y0,y1,y2⟩:=cr3 _ xb HXxb.out.1
         have y4:=cell_of_row _ xb 4 _ _ _ HXxb.out.1
         simp only[gq] at y0 y1 y2 y4
         refine hKK.out _ _ (⟨y0,y1,y2,y4⟩) (fun hHeld=> ?_)
         clear hKK KK
         try simp only[nmC]
         refine rd1 12 fun KK hKK=> ?_
         go_simp
         go_at_call 43
         refine(HW3.out _ HBd.out.low (HBd.out.row HXr.out rfl)).mono ?_
         rintro e wz ⟨rfl,hbz⟩
         have HXpb:=Lib.hid (HXpb.out.under hbz)
         have HXfb:=Lib.hid (HXfb.out.under hbz)
         have HXxb:=Lib.hid (HXxb.out.under hbz)
         have HXr:=Lib.hid (HXr.out.under hbz)
         have HBd:=Lib.hid (HBd.out.under hbz)
         clear hbz
         try dsimp only
         obtain⟨y0,y1,y2⟩:=cr3 _ xb HXxb.out.1
         have y4:=cell_of_row _ xb 4 _ _ _ HXxb.out.1
         simp only[gq] at y0 y1 y2 y4
         refine hKK.out _ _ (⟨y0,y1,y2,y4⟩) (fun hHeld=> ?_)
         clear hKK KK
         try simp only[nmC]
         refine tk 13 (h:= ?_)
         try simp only[nmC]
         refine wpAnyG_done (by kernel_rfl) ?_ _
         try go_wp2_with fail
         go_meet
         exact⟨rfl,_,HBd,HXpb,HXfb,HXxb⟩
        ·go_simp
         obtain⟨wb,ab,eW,eA,hBd,hX,hbx⟩:=HBd.out.built (.cells #[.int .i64 x.a,.int .i64 x.b,.int .i64 x.at_] 3 (0,0))
         simp only[eW,eA]
         clear eW eA
         have HXr:=Lib.hid hX
         have HXpb:=Lib.hid (hbx _ _ HXpb.out)
         have HXfb:=Lib.hid (hbx _ _ HXfb.out)
         have HXxb:=Lib.hid (hbx _ _ HXxb.out)
         have HBd:=Lib.hid hBd
         clear hBd hX hbx
         obtain⟨y0,y1,y2⟩:=cr3 _ xb HXxb.out.1
         have y4:=cell_of_row _ xb 4 _ _ _ HXxb.out.1
         simp only[gq] at y0 y1 y2 y4
         refine hKK.out _ _ (⟨y0,y1,y2,y4⟩) (fun hHeld=> ?_)
         clear hKK KK
         try simp only[nmC]
         refine rd1 2 fun KK hKK=> ?_
         go_simp
         go_at_call 44
         refine(HFC.out _).mono ?_
         rintro e wz ⟨rfl,hbz⟩
         have HXpb:=Lib.hid (HXpb.out.under hbz)
         have HXfb:=Lib.hid (HXfb.out.under hbz)
         have HXxb:=Lib.hid (HXxb.out.under hbz)
         have HXr:=Lib.hid (HXr.out.under hbz)
         have HBd:=Lib.hid (HBd.out.under hbz)
         clear hbz
         try dsimp only
         obtain⟨y0,y1,y2⟩:=cr3 _ xb HXxb.out.1
         have y4:=cell_of_row _ xb 4 _ _ _ HXxb.out.1
         simp only[gq] at y0 y1 y2 y4
         refine hKK.out _ _ (⟨y0,y1,y2,y4⟩) (fun hHeld=> ?_)
         clear hKK KK
         try simp only[nmC]
         refine tk 3 (h:=tk 4 (h:= ?_))
         try simp only[nmC]
         refine rd1 12 fun KK hKK=> ?_
         go_simp
         go_at_call 43
         refine(HW3.out _ HBd.out.low (HBd.out.row HXr.out rfl)).mono ?_
         rintro e wz ⟨rfl,hbz⟩
         have HXpb:=Lib.hid (HXpb.out.under hbz)
         have HXfb:=Lib.hid (HXfb.out.under hbz)
         have HXxb:=Lib.hid (HXxb.out.under hbz)
         have HXr:=Lib.hid (HXr.out.under hbz)
         have HBd:=Lib.hid (HBd.out.under hbz)
         clear hbz
         try dsimp only
         obtain⟨y0,y1,y2⟩:=cr3 _ xb HXxb.out.1
         have y4:=cell_of_row _ xb 4 _ _ _ HXxb.out.1
         simp only[gq] at y0 y1 y2 y4
         refine hKK.out _ _ (⟨y0,y1,y2,y4⟩) (fun hHeld=> ?_)
         clear hKK KK
         try simp only[nmC]
         refine tk 13 (h:= ?_)
         try simp only[nmC]
         refine wpAnyG_done (by kernel_rfl) ?_ _
         try go_wp2_with fail
         go_meet
         exact⟨rfl,_,HBd,HXpb,HXfb,HXxb⟩
       case rest=>
        clear HBd HXpb HXfb HXxb
        obtain⟨rfl,v7,HBd,HXpb,HXfb,HXxb⟩:=hcut
        have y3:=cell_of_row wc xb 3 _ _ _ HXxb.out.1
        simp only[gq] at y3
        have hl3:=HL3.out
        by_cases hz:x.text.data.toList=[]
        ·have htn:=tailL_none hz
         have hx0:x.text=⟨#[]⟩:=toList_inj (by rw[ByteArray.toList_eq,ByteArray.toList_eq,hz])
         rw[hx0] at y3
         have HQ3:Hid ((b1++(X3++ [10]))++((f.code.drop (k+1)).flatMap instL++R)=T):=Lib.hid (by have:=HQ2.out;rwa [htn,List.append_nil] at this)
         have HLX:Hid (b1.length+(⟨⟨X3⟩⟩++⟨#[10]⟩:ByteArray).size≤100000000):=Lib.hid (by rw[ByteArray.size_append];show b1.length+(X3.length+1)≤100000000;omega)
         have hnb3:¬(9223372036854775807<X3.length+1):=by omega
         clear htn hx0 hz hl3
         go_wp2_with (go_at_call 41;refine(writeString_any HBd.out _ HLX.out).mono ?_;rintro e wz ⟨rfl,vz,hbz,hxz⟩;rw[cat_nl] at hbz;have HBz:=Lib.hid hbz;have HXpz:=Lib.hid (hxz _ _ HXpb.out);have HXfz:=Lib.hid (hxz _ _ HXfb.out);clear hbz hxz)
         go_roundw
         case rel=>exact⟨k+1,_,vz,by simp,by omega,HBz,HXpz,HXfz,HQ3⟩
         case measure=>simp[intOf];omega
        ·have htn:=tailL_some hz
         obtain⟨tx,htx2⟩:∃tx:List UInt8,x.text=⟨⟨tx⟩⟩:=⟨x.text.data.toList,rfl⟩
         have htl:tx.length≤3000000:=by rw[htx2] at htx;exact htx
         rw[htx2] at y3 hz htn
         have e0:(!tx.isEmpty)=true:=by simpa using (show tx≠ [] from hz)
         obtain⟨Q,hQ⟩:∃Q,34::quoteL tx++ [34]=Q:=⟨_,rfl⟩
         have htn2:tailL x=32::Q:=by rw[htn,←hQ]
         have HQT:=Lib.hid (fun W=>Quote_any tx W htl)
         rw[hQ] at HQT
         have HQ3:Hid ((b1++((X3++32::Q)++ [10]))++((f.code.drop (k+1)).flatMap instL++R)=T):=Lib.hid (by have:=HQ2.out;rwa [htn2] at this)
         rw[htn2,List.length_cons] at hl3
         have HLX:Hid (b1.length+(⟨⟨X3⟩⟩++(⟨#[32]⟩++⟨⟨Q⟩⟩)++⟨#[10]⟩:ByteArray).size≤100000000):=Lib.hid (by simp only[ByteArray.size_append];show b1.length+(X3.length+(1+Q.length)+1)≤100000000;omega)
         have hn1:¬(9223372036854775807<1+Q.length):=by omega
         have hn2:¬(9223372036854775807<X3.length+(1+Q.length)):=by omega
         have hn3:¬(9223372036854775807<X3.length+(1+Q.length)+1):=by omega
         clear htn htn2 hz htx2 hQ hl3 htx
         go_wp2_with (first
          |(go_at_call 45;refine(HQT.out _).mono ?_;rintro e wq ⟨rfl,hbq⟩;have HBd:=Lib.hid (HBd.out.under hbq);have HXpb:=Lib.hid (HXpb.out.under hbq);have HXfb:=Lib.hid (HXfb.out.under hbq);clear hbq)
          |(go_at_call 41;refine(writeString_any HBd.out _ HLX.out).mono ?_;rintro e wz ⟨rfl,vz,hbz,hxz⟩;rw[cat_q] at hbz;have HBz:=Lib.hid hbz;have HXpz:=Lib.hid (hxz _ _ HXpb.out);have HXfz:=Lib.hid (hxz _ _ HXfb.out);clear hbz hxz))
         go_roundw
         case rel=>exact⟨k+1,_,vz,by simp,by omega,HBz,HXpz,HXfz,HQ3⟩
         case measure=>simp[intOf];omega
      ·obtain rfl:k=n:=by omega
       have he:=HQ.out
       rw[List.drop_of_length_le (by rw[HN.out];exact Nat.le_refl _)] at he
       simp only[List.flatMap_nil,List.nil_append] at he
       have HQ3:Hid (b1++(p.funcs.drop (q+1)).flatMap funcL=T):=Lib.hid (by rw[HRR.out];exact he)
       clear he
       go_wp2_with fail
       go_roundw
       case rel=>exact⟨q+1,b1,v6,by simp,by omega,HBd,HXpb,HQ3⟩
       case measure=>simp[intOf];omega
  ·obtain rfl:q=nf:=by omega
   have he:=HQ.out
   rw[List.drop_of_length_le (by rw[HNF.out];exact Nat.le_refl _)] at he
   simp only[List.flatMap_nil,List.append_nil] at he
   subst he
   have hne:B≠ []:=fun e=>by
    have:=congrArg List.length HT.out
    rw[e] at this
    simp at this
   go_wp2_with (go_at_call 46;refine(Tryz.Builder_String w.heap.size b B wr HBd.out.isB hne).mono ?_;rintro e wz ⟨rfl,hbz⟩)
   go_ret2
   exact⟨HBd.out.low.trans hbz,rfl⟩
end Go.Proofs.YtagnicbknbmccaaGreatDoor
