/- code.Encode of any program. -/
import Derived.Test.YtagnicbknbmccaaGreatDoorMCwF
import Derived.Test.YtagnicbknbmccaaGreatDoorSqC
import Derived.Test.YtagnicbknbmccaaGreatDoorEnA
import Derived.Test.YtagnicbknbmccaaGreatDoorMCxE
set_option maxRecDepth 100000
set_option maxHeartbeats 30000000
namespace Go.Proofs.YtagnicbknbmccaaGreatDoor
open Go.RowKit
theorem funcB_eq2 (f:Cf) (b r:List UInt8):b++(funcB f++r)=(((((b++textB f.name.data.toList)++ [f.params,f.slots,(f.taken.length:Int)].flatMap numB)++f.taken.flatMap numB)++ [f.around,(f.code.length:Int)].flatMap numB)++(f.code.flatMap instB++r)):=by simp[funcB]
theorem headAllE {w0:World} {p:Cp} {n m i:Nat} {fa ga:Option Addr} {xs:List (Cf×Fv)} (hp:PgAt w0 p n m fa ga xs) {f:Cf} (hf:p.funcs[i]? =some f):
  ∃g q fv,fa=some ⟨g,q,none⟩∧LiesF w0 w0.heap.size (f,fv)∧∀w,Below w0.heap.size w0 w→HeadAt w g q i n f.name f.params f.slots f.around fv.ta f.taken.length fv.tc fv.ca f.code.length fv.cc:=by
 obtain⟨g,q,fv,e,hl,x0,x1,x2,x3,x4,x5⟩:=hp.func hf
 have hg:g<w0.heap.size:=World.block_lt_of_cell? w0 ⟨g,q+i*6,none⟩ x0
 have hi:i<p.funcs.length:=(List.getElem?_eq_some_iff.1 hf).1
 refine⟨g,q,fv,e,hl,fun w hb0=> ?_⟩
 have hc:∀o v,w0.cell? ⟨g,o,none⟩=some v→w.cell? ⟨g,o,none⟩=some v:=fun o v h=>(hb0.cell (p:=⟨g,o,none⟩) hg).trans h
 exact⟨Nat.lt_of_lt_of_le hg hb0.size,by rw[←hp.fn];exact hi,hc _ _ x0,hc _ _ x1,hc _ _ x2,hc _ _ x3,hc _ _ x4,hc _ _ x5⟩
theorem manyFrom_ok:∀(l:List Cf) (i:Nat),manyFrom l i=none→∀f∈l,f.taken.length≤20000
 |g::r,i,h,f,hf=>by
  rw[manyFrom] at h
  split at h
  ·cases h
  ·rename_i hn
   rcases List.mem_cons.1 hf with rfl|hf
   ·omega
   ·exact manyFrom_ok r (i+1) h f hf
theorem right_bounds {p:Cp} (h:rightC p=none) (hs:manySum p.funcs≤4000000000000):p.funcs.length≤20000∧p.globals.length≤20000∧∀f∈p.funcs,f.code.length≤60000∧f.taken.length≤20000:=by
 have h0:=manySum_pos p.funcs
 unfold rightC at h
 rw[show IntKind.i64.wrap (manySum p.funcs)=manySum p.funcs by rw[IntKind.wrap_i64];omega] at h
 split at h
 ·cases h
 ·split at h
  ·cases h
  ·rename_i h1 h2
   exact⟨by omega,by omega,fun f hf=>⟨by have:=sum_mem p.funcs f hf;omega,manyFrom_ok _ _ h2 f hf⟩⟩
theorem text_size (s:ByteArray):s.size≤(textB s.data.toList).length:=by
 have h1:s.data.toList.length=s.size:=by rw[Array.length_toList];rfl
 unfold textB
 simp only[List.length_append]
 omega
def EncPost (w:World) (p:Cp) (e:Ending) (w':World):Prop:=Below w.heap.size w w'∧match rightC p with
 |some c=>∃b,e= .returned (.tuple #[.string ⟨#[]⟩,.iface 42 (.pointer (some ⟨b,0,none⟩))])∧w.heap.size≤b∧WrAt w' b c.code c.at_ c.ins
 |none=>e= .returned (.tuple #[.string ⟨(encodeB p).toArray⟩,.nilIface])
theorem encode_any {p:Cp} {nf mg fc gc:Nat} {fa ga:Option Addr} {xs:List (Cf×Fv)} {w:World} (hp:PgAt w p nf mg fa ga xs) (hc1:nf≤fc) (hc2:mg≤gc) (ht:Tame p) (hG:Gc w) (hlen:rightC p=none→(encodeB p).length≤80000000):
  Calls Tryz.prog 12 #[.agg #[.slice fa nf fc,.slice ga mg gc]] w (EncPost w p):=by
 have HRT:Hid (∀W,Below w.heap.size w W→Calls Tryz.prog 11 #[.agg #[.slice fa nf fc,.slice ga mg gc]] W (RightPost W (rightC p))):=Lib.hid fun W hW=>right_all (hp.rise hW) hc1 hc2 ht (hG.up hW)
 have HB0:Hid (Below w.heap.size w (w.alloc (.cells #[.slice fa nf fc,.slice ga mg gc] 27 (0,0)))):=Lib.hid ((Below.refl _ _).alloc (Nat.le_refl _) _)
 have HP0:=Lib.hid (heap_alloc_new w (.cells #[.slice fa nf fc,.slice ga mg gc] 27 (0,0)))
 have kc:=fun(w:World) (C:Array Value) (n c:Nat)=>Lib.run_convert_bytes_const (P:=Tryz.prog) w 75 5 C n c Tryz.underlying75 Tryz.underlying5
 unfold EncPost
 cases hR:rightC p with
 |some c=>
  rw[hR] at HRT
  clear hR hp hG ht hlen
  go_enter Tryz.func12,Tryz.ntmps12
  go_wp2_with (go_at_call 11;refine(HRT.out _ HB0.out).mono ?_;rintro e w1 ⟨hb1,b,rfl,hl1,hw1⟩;have HB1:=Lib.hid (HB0.out.trans (hb1.mono HB0.out.size));have HBL:=Lib.hid (Nat.le_trans HB0.out.size hl1);have HW1:=Lib.hid hw1;clear hb1 hl1 hw1)
  go_ret2
  exact⟨HB1.out,b,rfl,HBL.out,HW1.out⟩
 |none=>
 have hlen:=hlen hR
 obtain⟨hb1,hb2,hb3⟩:=right_bounds hR ht.sum
 rw[hp.fn] at hb1
 rw[hp.gn] at hb2
 rw[hR] at HRT
 have HBD:=Lib.hid hb3
 obtain⟨T,hT⟩:∃T,encodeB p=T:=⟨_,rfl⟩
 rw[hT] at hlen⊢
 have hm:=hp.gn
 have hn:=hp.fn
 have HNF:=Lib.hid hn
 have HMG:=Lib.hid hm
 have HT:Hid (([71,67,48,49]++numB mg)++(p.globals.flatMap (fun s=>textB s.data.toList)++(numB nf++p.funcs.flatMap funcB))=T):=Lib.hid (by rw[←hT];unfold encodeB;rw[hm,hn];simp)
 have HFN:Hid (∀i f,p.funcs[i]? =some f→∃g q fv,fa=some ⟨g,q,none⟩∧LiesF w w.heap.size (f,fv)∧∀W,Below w.heap.size w W→HeadAt W g q i nf f.name f.params f.slots f.around fv.ta f.taken.length fv.tc fv.ca f.code.length fv.cc):=Lib.hid fun i f hf=>headAllE hp hf
 have HGL:Hid (∀i s,p.globals[i]? =some s→∃g o,ga=some ⟨g,o,none⟩∧g<w.heap.size∧∀W,Below w.heap.size w W→W.cell? ⟨g,o+i,none⟩=some (.string s)):=Lib.hid fun i s hs=>by
  obtain⟨g,o,e,h⟩:=hp.glob hs
  have hg:g<w.heap.size:=World.block_lt_of_cell? w ⟨g,o+i,none⟩ h
  exact⟨g,o,e,hg,fun W hb=>(hb.cell (p:=⟨g,o+i,none⟩) hg).trans h⟩
 have HOK:=Lib.hid ht.ok
 clear hp ht hG hT hm hn hR hb3
 go_enter Tryz.func12,Tryz.ntmps12
 go_wp2_with (first
  |(go_at_call 11;refine(HRT.out _ HB0.out).mono ?_;rintro e w1 ⟨hb1,rfl⟩;have hB1:=HB0.out.trans (hb1.mono HB0.out.size);have hP1:=(hb1.block _ (Array.getElem?_eq_some_iff.1 HP0.out).1).trans HP0.out;have hP2:=(heap_alloc_old w1 (.cells #[.int .u8 71,.int .u8 67,.int .u8 48,.int .u8 49] 5 (4,5)) (Array.getElem?_eq_some_iff.1 hP1).1).trans hP1;have p1:=cell_of_row _ _ 1 _ _ _ hP2;simp only[gq] at p1;have HB1:=Lib.hid hB1;have HP1:=Lib.hid hP1;clear hB1 hP1 hP2 hb1)
  |(go_at_call 39;refine(enc_mark HB1.out HP1.out (m:=mg) (by omega)).mono ?_;rintro e w2 ⟨v2,rfl,hE2,hbx2⟩;have p3:=cell_of_row _ _ 1 _ _ _ hbx2.1;have p4:=cell_of_row _ _ 0 _ _ _ hbx2.1;simp only[gq] at p3 p4;have HE2:=Lib.hid hE2;have HX2:=Lib.hid hbx2;clear hE2 hbx2))
 go_loopw [5,27] (fun v1 i wr=>∃(k:Nat) (b1:List UInt8),i= .int .i64 k∧k≤mg∧Hid (EncAt w wr v1 b1)∧Hid (Box wr v1 w.heap.size (.cells #[.slice fa nf fc,.slice ga mg gc] 27 (0,0)))∧Hid (b1++((p.globals.drop k).flatMap (fun s=>textB s.data.toList)++(numB nf++p.funcs.flatMap funcB))=T)) (fun _ i _=>mg-(intOf i).toNat)
 case atStart=>exact⟨0,_,rfl,Nat.zero_le _,HE2,HX2,HT⟩
 case round=>
  clear HE2 HX2 p3 p4 p1
  obtain⟨k,b1,rfl,hk,HE3,HX3,HQ⟩:=hrel
  by_cases hlt:k<mg
  ·obtain⟨s,hs⟩:∃s,p.globals[k]? =some s:=⟨_,List.getElem?_eq_getElem (by rw[HMG.out];exact hlt)⟩
   obtain⟨gg,go,rfl,hgl,hgc⟩:=HGL.out k s hs
   have c0:=hgc wr HE3.out.low
   have hq:=HQ.out
   rw[drop_cons hs,List.flatMap_cons] at hq
   have HQ2:Hid ((b1++textB s.data.toList)++((p.globals.drop (k+1)).flatMap (fun s=>textB s.data.toList)++(numB nf++p.funcs.flatMap funcB))=T):=Lib.hid (by rw[←hq];simp)
   have hsz:=text_size s
   have hlq:=congrArg List.length HQ2.out
   simp only[List.length_append] at hlq
   have HLN:Hid (b1.length+s.size≤90000000):=Lib.hid (by omega)
   clear hq hs hlq hsz hgc
   go_wp2_with (go_at_call 40;refine(text_any HE3.out.own HE3.out.low.size s HLN.out).mono ?_;rintro e w4 hq;obtain⟨v4,rfl,hE4,hbx4⟩:=HE3.out.post hq;have HE4:=Lib.hid hE4;have HX4:=Lib.hid (hbx4 _ _ HX3.out);clear hq hE4 hbx4)
   go_roundw
   case rel=>exact⟨k+1,_,by simp,by omega,HE4,HX4,HQ2⟩
   case measure=>simp[intOf];omega
  ·obtain rfl:mg=k:=by omega
   have hq:=HQ.out
   rw[List.drop_of_length_le (by rw[HMG.out];exact Nat.le_refl _)] at hq
   simp only[List.flatMap_nil,List.nil_append] at hq
   have HQ2:Hid ((b1++ [(nf:Int)].flatMap numB)++p.funcs.flatMap funcB=T):=Lib.hid (by rw[←hq];simp)
   have hlq:=congrArg List.length hq
   simp only[List.length_append] at hlq
   have HLN:Hid (b1.length+11*1≤100000000):=Lib.hid (by omega)
   have HNI:Hid (∀z∈ [(nf:Int)],okI z):=Lib.hid fun z hz=>by rw[List.mem_singleton.1 hz];exact⟨by omega,by omega⟩
   clear hq hlq HQ
   have p0:=cell_of_row wr _ 0 _ _ _ HX3.out.1
   simp only[List.getElem?_toArray,List.getElem?_cons_zero] at p0
   go_wp2_with (go_at_call 39;refine(numbers_box (HE3.out.alloc _) (HE3.out.box _) [(nf:Int)] rfl rfl HNI.out HLN.out).mono ?_;rintro e w4 hq;obtain⟨v4,rfl,hE4,hbx4⟩:=(HE3.out.alloc _).post hq;have HE4:=Lib.hid hE4;have HX4:=Lib.hid (hbx4 _ _ (HX3.out.alloc _));clear hq hE4 hbx4;have p2:=cell_of_row w4 _ 0 _ _ _ HX4.out.1;simp only[List.getElem?_toArray,List.getElem?_cons_zero] at p2)
   clear p0
   go_loopw [5,44] (fun v1 i wr=>∃(q:Nat) (b1:List UInt8),i= .int .i64 q∧q≤nf∧Hid (EncAt w wr v1 b1)∧Hid (Box wr v1 w.heap.size (.cells #[.slice fa nf fc,.slice ga mg gc] 27 (0,0)))∧Hid (b1++(p.funcs.drop q).flatMap funcB=T)) (fun _ i _=>nf-(intOf i).toNat)
   case atStart=>exact⟨0,_,rfl,Nat.zero_le _,HE4,HX4,HQ2⟩
   case round=>
    clear HE4 HX4 p2 HE3 HX3 HQ2 HLN HNI
    obtain⟨q,B,rfl,hqn,HE5,HX5,HQ⟩:=hrel
    by_cases hltq:q<nf
    ·obtain⟨f,hf⟩:∃f,p.funcs[q]? =some f:=⟨_,List.getElem?_eq_getElem (by rw[HNF.out];exact hltq)⟩
     obtain⟨g,off,fv,rfl,hown,hA⟩:=HFN.out q f hf
     obtain⟨hcl,htl0⟩:=HBD.out f (List.mem_of_getElem? hf)
     have HFO:=Lib.hid (HOK.out.2.2.1 f (List.mem_of_getElem? hf))
     have HOWN:=Lib.hid hown
     have hA5:=hA wr HE5.out.low
     obtain⟨n,hn⟩:∃n,f.code.length=n:=⟨_,rfl⟩
     obtain⟨t,ht⟩:∃t,f.taken.length=t:=⟨_,rfl⟩
     have HN:=Lib.hid hn
     have HTL:=Lib.hid ht
     rw[hn,ht] at hA5
     rw[hn] at hcl
     rw[ht] at htl0
     have hg:=hA5.lt
     have x0:=hA5.x0
     have x1:=hA5.x1
     have x2:=hA5.x2
     have x3:=hA5.x3
     have x4:=hA5.x4
     have x5:=hA5.x5
     have hq0:=HQ.out
     rw[drop_cons hf,List.flatMap_cons] at hq0
     obtain⟨R,hRR⟩:∃R,(p.funcs.drop (q+1)).flatMap funcB=R:=⟨_,rfl⟩
     have HRR:=Lib.hid hRR
     rw[hRR] at hq0
     have HQ0:=Lib.hid hq0
     clear hA hf hown hA5 hn ht hq0 hRR HQ
     go_upto_region 14 with fail
     have HE:=Lib.hid (HE5.out.alloc (.cells #[.string f.name,.int .i64 f.params,.int .i64 f.slots,.slice fv.ta t fv.tc,.int .i64 f.around,.slice fv.ca n fv.cc] 33 (0,0)))
     have HXpb:=Lib.hid (HX5.out.alloc (.cells #[.string f.name,.int .i64 f.params,.int .i64 f.slots,.slice fv.ta t fv.tc,.int .i64 f.around,.slice fv.ca n fv.cc] 33 (0,0)))
     have HXfb:=Lib.hid (HE5.out.box (.cells #[.string f.name,.int .i64 f.params,.int .i64 f.slots,.slice fv.ta t fv.tc,.int .i64 f.around,.slice fv.ca n fv.cc] 33 (0,0)))
     obtain⟨fb,hfb⟩:∃fb,wr.heap.size=fb:=⟨_,rfl⟩
     obtain⟨W0,hW0⟩:∃W0,wr.alloc (.cells #[.string f.name,.int .i64 f.params,.int .i64 f.slots,.slice fv.ta t fv.tc,.int .i64 f.around,.slice fv.ca n fv.cc] 33 (0,0))=W0:=⟨_,rfl⟩
     simp only[hW0,hfb] at HE HXpb HXfb⊢
     clear hW0 hfb x0 x1 x2 x3 x4 x5 HE5 HX5
     have hk1:∀z∈ [f.params,f.slots,(t:Int)],okI z:=by
      intro z hz
      rcases List.mem_cons.1 hz with rfl|hz
      ·exact HFO.out.2.1
      rcases List.mem_cons.1 hz with rfl|hz
      ·exact HFO.out.2.2.1
      rw[List.mem_singleton.1 hz]
      exact⟨by omega,by omega⟩
     have hk3:∀z∈ [f.around,(n:Int)],okI z:=by
      intro z hz
      rcases List.mem_cons.1 hz with rfl|hz
      ·exact HFO.out.2.2.2.1
      rw[List.mem_singleton.1 hz]
      exact⟨by omega,by omega⟩
     have HK1:=Lib.hid hk1
     have HK3:=Lib.hid hk3
     have HK2:Hid (∀z∈f.taken,okI z):=Lib.hid HFO.out.2.2.2.2.2.2.1
     have HTK:Hid (RowIs w w.heap.size fv.ta (f.taken.map (Value.int .i64))):=Lib.hid HOWN.out.1
     have hq:=HQ0.out
     rw[funcB_eq2,HTL.out,HN.out] at hq
     have HQ:=Lib.hid hq
     have hlq:=congrArg List.length hq
     simp only[List.length_append] at hlq
     have hns:=text_size f.name
     have HL1:Hid (B.length+(textB f.name.data.toList).length≤80000000∧f.name.size≤(textB f.name.data.toList).length):=Lib.hid ⟨by omega,hns⟩
     have HL2:Hid (((B++textB f.name.data.toList)++ [f.params,f.slots,(t:Int)].flatMap numB).length+(f.taken.flatMap numB).length≤80000000∧11*t≤11*20000):=Lib.hid ⟨by simp only[List.length_append];omega,by omega⟩
     clear hq hlq hk1 hk3 hns
     go_cut [5] from 48 to 60 (fun s5 wx=>Hid (EncAt w wx s5 ((B++textB f.name.data.toList)++ [f.params,f.slots,(t:Int)].flatMap numB))∧Hid (Box wx s5 w.heap.size (.cells #[.slice (some ⟨g,off,none⟩) nf fc,.slice ga mg gc] 27 (0,0)))∧Hid (Box wx s5 fb (.cells #[.string f.name,.int .i64 f.params,.int .i64 f.slots,.slice fv.ta t fv.tc,.int .i64 f.around,.slice fv.ca n fv.cc] 33 (0,0))))
     case first=>
      have HE:=Lib.hid HE.out.drew
      have HXpb:=Lib.hid HXpb.out.drew
      have HXfb:=Lib.hid HXfb.out.drew
      obtain⟨y0,y1,y2,y3⟩:W0.drew.cell? ⟨fb,0,none⟩=some (.string f.name)∧W0.drew.cell? ⟨fb,1,none⟩=some (.int .i64 f.params)∧W0.drew.cell? ⟨fb,2,none⟩=some (.int .i64 f.slots)∧W0.drew.cell? ⟨fb,3,none⟩=some (.slice fv.ta t fv.tc):=⟨cell_of_row _ fb 0 _ _ _ HXfb.out.1,cell_of_row _ fb 1 _ _ _ HXfb.out.1,cell_of_row _ fb 2 _ _ _ HXfb.out.1,cell_of_row _ fb 3 _ _ _ HXfb.out.1⟩
      refine wp_region_G [] (fun y=>y.cell? ⟨fb,0,none⟩=some (.string f.name)∧y.cell? ⟨fb,1,none⟩=some (.int .i64 f.params)∧y.cell? ⟨fb,2,none⟩=some (.int .i64 f.slots)∧y.cell? ⟨fb,3,none⟩=some (.slice fv.ta t fv.tc)) (by rfl) ?_ (fun hHeld=> ?_)
      ·exact⟨y0,y1,y2,y3⟩
      generalize hwd:World.drew W0=wd at HE HXpb HXfb y0 y1 y2 y3 hHeld⊢
      refine tk 0 (h:=tk 1 (h:=tk 2 (h:=tk 4 (h:=tk 5 (h:=tk 6 (h:= ?_))))))
      try simp only[nmC]
      refine tk 7 (h:=tk 8 (h:=tk 9 (h:=tk 10 (h:= ?_))))
      try simp only[nmC]
      refine rd2 3 11 (fun KK hKK=> ?_) fun KK hKK=> ?_
      ·go_simp
       go_at_call 40
       refine(text_any HE.out.own HE.out.low.size _ (by have:=HL1.out;omega)).mono ?_
       rintro e wz hq
       obtain⟨vz,rfl,hE,hbx⟩:=HE.out.post hq
       have HXpb:=Lib.hid (hbx _ _ HXpb.out)
       have HXfb:=Lib.hid (hbx _ _ HXfb.out)
       have HE:=Lib.hid hE
       clear hE hbx hq
       try dsimp only
       obtain⟨y0,y1,y2,y3⟩:=cr4 _ fb HXfb.out.1
       simp only[gq] at y0 y1 y2 y3
       refine hKK.out _ _ (⟨y0,y1,y2,y3⟩) (fun hHeld=> ?_)
       clear hKK KK
       try simp only[nmC]
       refine rd1 11 fun KK hKK=> ?_
       go_simp
       obtain⟨wb,ab,eW,eA,hE,hX,hbx⟩:=HE.out.built (.cells #[.int .i64 f.params,.int .i64 f.slots,.int .i64 t] 3 (0,0))
       simp only[eW,eA]
       clear eW eA
       have HXr1:=Lib.hid hX
       have HXpb:=Lib.hid (hbx _ _ HXpb.out)
       have HXfb:=Lib.hid (hbx _ _ HXfb.out)
       have HE:=Lib.hid hE
       clear hE hX hbx
       obtain⟨y0,y1,y2,y3⟩:=cr4 _ fb HXfb.out.1
       simp only[gq] at y0 y1 y2 y3
       refine hKK.out _ _ (⟨y0,y1,y2,y3⟩) (fun hHeld=> ?_)
       clear hKK KK
       try simp only[nmC]
       refine rd1 12 fun KK hKK=> ?_
       go_simp
       go_at_call 39
       refine(numbers_box HE.out HXr1.out [f.params,f.slots,(t:Int)] rfl rfl HK1.out (by have:=HL1.out;simp only[List.length_append,List.length_cons,List.length_nil] at this⊢;omega)).mono ?_
       rintro e wz hq
       obtain⟨vz,rfl,hE,hbx⟩:=HE.out.post hq
       have HXpb:=Lib.hid (hbx _ _ HXpb.out)
       have HXfb:=Lib.hid (hbx _ _ HXfb.out)
       have HXr1:=Lib.hid (hbx _ _ HXr1.out)
       have HE:=Lib.hid hE
       clear hE hbx hq
       try dsimp only
       obtain⟨y0,y1,y2,y3⟩:=cr4 _ fb HXfb.out.1
       simp only[gq] at y0 y1 y2 y3
       refine hKK.out _ _ (⟨y0,y1,y2,y3⟩) (fun hHeld=> ?_)
       clear hKK KK
       try simp only[nmC]
       refine tk 13 (h:= ?_)
       try simp only[nmC]
       refine wpAnyG_done (by kernel_rfl) ?_ _
       try go_wp2_with fail
       go_meet
       exact⟨HE,HXpb,HXfb⟩
      ·go_simp
       obtain⟨wb,ab,eW,eA,hE,hX,hbx⟩:=HE.out.built (.cells #[.int .i64 f.params,.int .i64 f.slots,.int .i64 t] 3 (0,0))
       simp only[eW,eA]
       clear eW eA
       have HXr1:=Lib.hid hX
       have HXpb:=Lib.hid (hbx _ _ HXpb.out)
       have HXfb:=Lib.hid (hbx _ _ HXfb.out)
       have HE:=Lib.hid hE
       clear hE hX hbx
       obtain⟨y0,y1,y2,y3⟩:=cr4 _ fb HXfb.out.1
       simp only[gq] at y0 y1 y2 y3
       refine hKK.out _ _ (⟨y0,y1,y2,y3⟩) (fun hHeld=> ?_)
       clear hKK KK
       try simp only[nmC]
       refine rd1 3 fun KK hKK=> ?_
       go_simp
       go_at_call 40
       refine(text_any HE.out.own HE.out.low.size _ (by have:=HL1.out;omega)).mono ?_
       rintro e wz hq
       obtain⟨vz,rfl,hE,hbx⟩:=HE.out.post hq
       have HXpb:=Lib.hid (hbx _ _ HXpb.out)
       have HXfb:=Lib.hid (hbx _ _ HXfb.out)
       have HXr1:=Lib.hid (hbx _ _ HXr1.out)
       have HE:=Lib.hid hE
       clear hE hbx hq
       try dsimp only
       obtain⟨y0,y1,y2,y3⟩:=cr4 _ fb HXfb.out.1
       simp only[gq] at y0 y1 y2 y3
       refine hKK.out _ _ (⟨y0,y1,y2,y3⟩) (fun hHeld=> ?_)
       clear hKK KK
       try simp only[nmC]
       refine rd1 12 fun KK hKK=> ?_
       go_simp
       go_at_call 39
       refine(numbers_box HE.out HXr1.out [f.params,f.slots,(t:Int)] rfl rfl HK1.out (by have:=HL1.out;simp only[List.length_append,List.length_cons,List.length_nil] at this⊢;omega)).mono ?_
       rintro e wz hq
       obtain⟨vz,rfl,hE,hbx⟩:=HE.out.post hq
       have HXpb:=Lib.hid (hbx _ _ HXpb.out)
       have HXfb:=Lib.hid (hbx _ _ HXfb.out)
       have HXr1:=Lib.hid (hbx _ _ HXr1.out)
       have HE:=Lib.hid hE
       clear hE hbx hq
       try dsimp only
       obtain⟨y0,y1,y2,y3⟩:=cr4 _ fb HXfb.out.1
       simp only[gq] at y0 y1 y2 y3
       refine hKK.out _ _ (⟨y0,y1,y2,y3⟩) (fun hHeld=> ?_)
       clear hKK KK
       try simp only[nmC]
       refine tk 13 (h:= ?_)
       try simp only[nmC]
       refine wpAnyG_done (by kernel_rfl) ?_ _
       try go_wp2_with fail
       go_meet
       exact⟨HE,HXpb,HXfb⟩
     case rest=>
      obtain⟨HE,HXpb,HXfb⟩:=hcut
      go_upto_region 15 with fail
      go_cut [5] from 61 to 71 (fun s5 wx=>Hid (EncAt w wx s5 ((((B++textB f.name.data.toList)++ [f.params,f.slots,(t:Int)].flatMap numB)++f.taken.flatMap numB)++ [f.around,(n:Int)].flatMap numB))∧Hid (Box wx s5 w.heap.size (.cells #[.slice (some ⟨g,off,none⟩) nf fc,.slice ga mg gc] 27 (0,0)))∧Hid (Box wx s5 fb (.cells #[.string f.name,.int .i64 f.params,.int .i64 f.slots,.slice fv.ta t fv.tc,.int .i64 f.around,.slice fv.ca n fv.cc] 33 (0,0))))
      case first=>
       have HE:=Lib.hid HE.out.drew
       have HXpb:=Lib.hid HXpb.out.drew
       have HXfb:=Lib.hid HXfb.out.drew
       obtain⟨y3,y4,y5⟩:wc.drew.cell? ⟨fb,3,none⟩=some (.slice fv.ta t fv.tc)∧wc.drew.cell? ⟨fb,4,none⟩=some (.int .i64 f.around)∧wc.drew.cell? ⟨fb,5,none⟩=some (.slice fv.ca n fv.cc):=⟨cell_of_row _ fb 3 _ _ _ HXfb.out.1,cell_of_row _ fb 4 _ _ _ HXfb.out.1,cell_of_row _ fb 5 _ _ _ HXfb.out.1⟩
       refine wp_region_G [] (fun y=>y.cell? ⟨fb,3,none⟩=some (.slice fv.ta t fv.tc)∧y.cell? ⟨fb,4,none⟩=some (.int .i64 f.around)∧y.cell? ⟨fb,5,none⟩=some (.slice fv.ca n fv.cc)) (by rfl) ?_ (fun hHeld=> ?_)
       ·exact⟨y3,y4,y5⟩
       generalize hwd:World.drew wc=wd at HE HXpb HXfb y3 y4 y5 hHeld⊢
       refine tk 0 (h:=tk 1 (h:=tk 2 (h:=tk 4 (h:=tk 5 (h:=tk 6 (h:= ?_))))))
       try simp only[nmC]
       refine tk 7 (h:=tk 8 (h:= ?_))
       try simp only[nmC]
       refine rd2 3 9 (fun KK hKK=> ?_) fun KK hKK=> ?_
       ·go_simp
        go_at_call 39
        refine(numbers_arg HE.out HTK.out HK2.out HTL.out (by have:=HL2.out;omega)).mono ?_
        rintro e wz hq
        obtain⟨vz,rfl,hE,hbx⟩:=HE.out.post hq
        have HXpb:=Lib.hid (hbx _ _ HXpb.out)
        have HXfb:=Lib.hid (hbx _ _ HXfb.out)
        have HE:=Lib.hid hE
        clear hE hbx hq
        try dsimp only
        have y3:=cell_of_row _ fb 3 _ _ _ HXfb.out.1
        have y4:=cell_of_row _ fb 4 _ _ _ HXfb.out.1
        have y5:=cell_of_row _ fb 5 _ _ _ HXfb.out.1
        simp only[gq] at y3 y4 y5
        refine hKK.out _ _ (⟨y3,y4,y5⟩) (fun hHeld=> ?_)
        clear hKK KK
        try simp only[nmC]
        refine rd1 9 fun KK hKK=> ?_
        go_simp
        obtain⟨wb,ab,eW,eA,hE,hX,hbx⟩:=HE.out.built (.cells #[.int .i64 f.around,.int .i64 n] 3 (0,0))
        simp only[eW,eA]
        clear eW eA
        have HXr2:=Lib.hid hX
        have HXpb:=Lib.hid (hbx _ _ HXpb.out)
        have HXfb:=Lib.hid (hbx _ _ HXfb.out)
        have HE:=Lib.hid hE
        clear hE hX hbx
        have y3:=cell_of_row _ fb 3 _ _ _ HXfb.out.1
        have y4:=cell_of_row _ fb 4 _ _ _ HXfb.out.1
        have y5:=cell_of_row _ fb 5 _ _ _ HXfb.out.1
        simp only[gq] at y3 y4 y5
        refine hKK.out _ _ (⟨y3,y4,y5⟩) (fun hHeld=> ?_)
        clear hKK KK
        try simp only[nmC]
        refine rd1 10 fun KK hKK=> ?_
        go_simp
        go_at_call 39
        refine(numbers_box HE.out HXr2.out [f.around,(n:Int)] rfl rfl HK3.out (by have:=HL2.out;simp only[List.length_append,List.length_cons,List.length_nil] at this⊢;omega)).mono ?_
        rintro e wz hq
        obtain⟨vz,rfl,hE,hbx⟩:=HE.out.post hq
        have HXpb:=Lib.hid (hbx _ _ HXpb.out)
        have HXfb:=Lib.hid (hbx _ _ HXfb.out)
        have HXr2:=Lib.hid (hbx _ _ HXr2.out)
        have HE:=Lib.hid hE
        clear hE hbx hq
        try dsimp only
        have y3:=cell_of_row _ fb 3 _ _ _ HXfb.out.1
        have y4:=cell_of_row _ fb 4 _ _ _ HXfb.out.1
        have y5:=cell_of_row _ fb 5 _ _ _ HXfb.out.1
        simp only[gq] at y3 y4 y5
        refine hKK.out _ _ (⟨y3,y4,y5⟩) (fun hHeld=> ?_)
        clear hKK KK
        try simp only[nmC]
        refine tk 11 (h:= ?_)
        try simp only[nmC]
        refine wpAnyG_done (by kernel_rfl) ?_ _
        try go_wp2_with fail
        go_meet
        exact⟨HE,HXpb,HXfb⟩
       ·go_simp
        obtain⟨wb,ab,eW,eA,hE,hX,hbx⟩:=HE.out.built (.cells #[.int .i64 f.around,.int .i64 n] 3 (0,0))
        simp only[eW,eA]
        clear eW eA
        have HXr2:=Lib.hid hX
        have HXpb:=Lib.hid (hbx _ _ HXpb.out)
        have HXfb:=Lib.hid (hbx _ _ HXfb.out)
        have HE:=Lib.hid hE
        clear hE hX hbx
        have y3:=cell_of_row _ fb 3 _ _ _ HXfb.out.1
        have y4:=cell_of_row _ fb 4 _ _ _ HXfb.out.1
        have y5:=cell_of_row _ fb 5 _ _ _ HXfb.out.1
        simp only[gq] at y3 y4 y5
        refine hKK.out _ _ (⟨y3,y4,y5⟩) (fun hHeld=> ?_)
        clear hKK KK
        try simp only[nmC]
        refine rd1 3 fun KK hKK=> ?_
        go_simp
        go_at_call 39
        refine(numbers_arg HE.out HTK.out HK2.out HTL.out (by have:=HL2.out;omega)).mono ?_
        rintro e wz hq
        obtain⟨vz,rfl,hE,hbx⟩:=HE.out.post hq
        have HXpb:=Lib.hid (hbx _ _ HXpb.out)
        have HXfb:=Lib.hid (hbx _ _ HXfb.out)
        have HXr2:=Lib.hid (hbx _ _ HXr2.out)
        have HE:=Lib.hid hE
        clear hE hbx hq
        try dsimp only
        have y3:=cell_of_row _ fb 3 _ _ _ HXfb.out.1
        have y4:=cell_of_row _ fb 4 _ _ _ HXfb.out.1
        have y5:=cell_of_row _ fb 5 _ _ _ HXfb.out.1
        simp only[gq] at y3 y4 y5
        refine hKK.out _ _ (⟨y3,y4,y5⟩) (fun hHeld=> ?_)
        clear hKK KK
        try simp only[nmC]
        refine rd1 10 fun KK hKK=> ?_
        go_simp
        go_at_call 39
        refine(numbers_box HE.out HXr2.out [f.around,(n:Int)] rfl rfl HK3.out (by have:=HL2.out;simp only[List.length_append,List.length_cons,List.length_nil] at this⊢;omega)).mono ?_
        rintro e wz hq
        obtain⟨vz,rfl,hE,hbx⟩:=HE.out.post hq
        have HXpb:=Lib.hid (hbx _ _ HXpb.out)
        have HXfb:=Lib.hid (hbx _ _ HXfb.out)
        have HXr2:=Lib.hid (hbx _ _ HXr2.out)
        have HE:=Lib.hid hE
        clear hE hbx hq
        try dsimp only
        have y3:=cell_of_row _ fb 3 _ _ _ HXfb.out.1
        have y4:=cell_of_row _ fb 4 _ _ _ HXfb.out.1
        have y5:=cell_of_row _ fb 5 _ _ _ HXfb.out.1
        simp only[gq] at y3 y4 y5
        refine hKK.out _ _ (⟨y3,y4,y5⟩) (fun hHeld=> ?_)
        clear hKK KK
        try simp only[nmC]
        refine tk 11 (h:= ?_)
        try simp only[nmC]
        refine wpAnyG_done (by kernel_rfl) ?_ _
        try go_wp2_with fail
        go_meet
        exact⟨HE,HXpb,HXfb⟩
      case rest=>
       clear HE HXpb HXfb
       obtain⟨HE,HXpb,HXfb⟩:=hcut
       have y5:=cell_of_row wc fb 5 _ _ _ HXfb.out.1
       simp only[gq] at y5
       go_wp2_with fail
       go_loopw [5,75] (fun v1 i wr=>∃(k:Nat) (b1:List UInt8),i= .int .i64 k∧k≤n∧Hid (EncAt w wr v1 b1)∧Hid (Box wr v1 w.heap.size (.cells #[.slice (some ⟨g,off,none⟩) nf fc,.slice ga mg gc] 27 (0,0)))∧Hid (Box wr v1 fb (.cells #[.string f.name,.int .i64 f.params,.int .i64 f.slots,.slice fv.ta t fv.tc,.int .i64 f.around,.slice fv.ca n fv.cc] 33 (0,0)))∧Hid (b1++((f.code.drop k).flatMap instB++R)=T)) (fun _ i _=>n-(intOf i).toNat)
       case atStart=>exact⟨0,_,rfl,Nat.zero_le _,HE,HXpb,HXfb,HQ⟩
       case round=>
        clear HE HXpb HXfb y5 HQ HQ0 HL1 HL2 HK1 HK2 HK3 HTK
        obtain⟨k,b1,rfl,hk,HE,HXpb,HXfb,HQ⟩:=hrel
        by_cases hlt:k<n
        ·obtain⟨x,hx⟩:∃x,f.code[k]? =some x:=⟨_,List.getElem?_eq_getElem (by rw[HN.out];exact hlt)⟩
         have hq:=HQ.out
         rw[drop_cons hx,List.flatMap_cons,List.append_assoc,instB_eq] at hq
         have HQ2:=Lib.hid hq
         have hxo:=HFO.out.2.2.2.2.2.2.2 x (List.mem_of_getElem? hx)
         obtain⟨_,hcr,_,_⟩:=HOWN.out
         obtain⟨ca,co,hca,hcb,hcc⟩:=hcr.at (by rw[flat_len ins_len];have:=HN.out;show 0<f.code.length*5;omega)
         dsimp only at hca
         obtain⟨x0,x1,x2,x3,x4⟩:=ins_at hcc hx
         have hkb:∀o,wr.cell? ⟨ca,o,none⟩=w.cell? ⟨ca,o,none⟩:=fun o=>World.cell?_of_block (w:=w) (a:=⟨ca,o,none⟩) (HE.out.low.block ca hcb)
         rw[←hkb] at x0 x1 x2 x3 x4
         have hk4:∀z∈ [x.op,x.a,x.b],okI z:=by
          intro z hz
          rcases List.mem_cons.1 hz with rfl|hz
          ·exact hxo.1
          rcases List.mem_cons.1 hz with rfl|hz
          ·exact hxo.2.1
          rw[List.mem_singleton.1 hz]
          exact hxo.2.2.1
         have hk5:∀z∈ [x.at_],okI z:=by
          intro z hz
          rw[List.mem_singleton.1 hz]
          exact hxo.2.2.2.1
         have HK4:=Lib.hid hk4
         have HK5:=Lib.hid hk5
         have hlq:=congrArg List.length hq
         simp only[List.length_append] at hlq
         have hns:=text_size x.text
         have HL3:Hid (b1.length+([x.op,x.a,x.b].flatMap numB).length+(textB x.text.data.toList).length≤80000000∧x.text.size≤(textB x.text.data.toList).length):=Lib.hid ⟨by omega,hns⟩
         clear hx hq hxo hcr hcc hkb hk4 hk5 hlq hns
         go_upto_region 19 with fail
         have HXpb:=Lib.hid (HXpb.out.alloc (.cells #[.int .i64 x.op,.int .i64 x.a,.int .i64 x.b,.string x.text,.int .i64 x.at_] 36 (0,0)))
         have HXfb:=Lib.hid (HXfb.out.alloc (.cells #[.int .i64 x.op,.int .i64 x.a,.int .i64 x.b,.string x.text,.int .i64 x.at_] 36 (0,0)))
         have HXxb:=Lib.hid (HE.out.box (.cells #[.int .i64 x.op,.int .i64 x.a,.int .i64 x.b,.string x.text,.int .i64 x.at_] 36 (0,0)))
         have HE:=Lib.hid (HE.out.alloc (.cells #[.int .i64 x.op,.int .i64 x.a,.int .i64 x.b,.string x.text,.int .i64 x.at_] 36 (0,0)))
         obtain⟨xb,hxb⟩:∃xb,wr.heap.size=xb:=⟨_,rfl⟩
         obtain⟨W1,hW1⟩:∃W1,wr.alloc (.cells #[.int .i64 x.op,.int .i64 x.a,.int .i64 x.b,.string x.text,.int .i64 x.at_] 36 (0,0))=W1:=⟨_,rfl⟩
         simp only[hW1,hxb] at HE HXpb HXfb HXxb⊢
         clear hW1 hxb x0 x1 x2 x3 x4
         clear HB0 HP0 HT kc hca hlen hg HFN HGL HOK HRT
         have HE:=Lib.hid HE.out.drew
         have HXpb:=Lib.hid HXpb.out.drew
         have HXfb:=Lib.hid HXfb.out.drew
         have HXxb:=Lib.hid HXxb.out.drew
         obtain⟨y0,y1,y2,y3,y4⟩:W1.drew.cell? ⟨xb,0,none⟩=some (.int .i64 x.op)∧W1.drew.cell? ⟨xb,1,none⟩=some (.int .i64 x.a)∧W1.drew.cell? ⟨xb,2,none⟩=some (.int .i64 x.b)∧W1.drew.cell? ⟨xb,3,none⟩=some (.string x.text)∧W1.drew.cell? ⟨xb,4,none⟩=some (.int .i64 x.at_):=⟨cell_of_row _ xb 0 _ _ _ HXxb.out.1,cell_of_row _ xb 1 _ _ _ HXxb.out.1,cell_of_row _ xb 2 _ _ _ HXxb.out.1,cell_of_row _ xb 3 _ _ _ HXxb.out.1,cell_of_row _ xb 4 _ _ _ HXxb.out.1⟩
         refine wp_region_G [] (fun y=>y.cell? ⟨xb,0,none⟩=some (.int .i64 x.op)∧y.cell? ⟨xb,1,none⟩=some (.int .i64 x.a)∧y.cell? ⟨xb,2,none⟩=some (.int .i64 x.b)∧y.cell? ⟨xb,3,none⟩=some (.string x.text)∧y.cell? ⟨xb,4,none⟩=some (.int .i64 x.at_)) (by rfl) ?_ (fun hHeld=> ?_)
         ·exact⟨y0,y1,y2,y3,y4⟩
         generalize hwd:World.drew W1=wd at HE HXpb HXfb HXxb y0 y1 y2 y3 y4 hHeld⊢
         refine tk 0 (h:=tk 1 (h:=tk 2 (h:=tk 3 (h:=tk 4 (h:=tk 5 (h:= ?_))))))
         try simp only[nmC]
         refine tk 6 (h:=tk 9 (h:=tk 10 (h:=tk 12 (h:=tk 13 (h:= ?_)))))
         try simp only[nmC]
         refine rd2 7 14 (fun KK hKK=> ?_) fun KK hKK=> ?_
         ·go_simp
          obtain⟨wb,ab,eW,eA,hE,hX,hbx⟩:=HE.out.built (.cells #[.int .i64 x.op,.int .i64 x.a,.int .i64 x.b] 3 (0,0))
          simp only[eW,eA]
          clear eW eA
          have HXr3:=Lib.hid hX
          have HXpb:=Lib.hid (hbx _ _ HXpb.out)
          have HXfb:=Lib.hid (hbx _ _ HXfb.out)
          have HXxb:=Lib.hid (hbx _ _ HXxb.out)
          have HE:=Lib.hid hE
          clear hE hX hbx
          obtain⟨y0,y1,y2,y3,y4⟩:=cr5 _ xb HXxb.out.1
          simp only[gq] at y0 y1 y2 y3 y4
          refine hKK.out _ _ (⟨y0,y1,y2,y3,y4⟩) (fun hHeld=> ?_)
          clear hKK KK
          try simp only[nmC]
          refine rd2 8 14 (fun KK hKK=> ?_) fun KK hKK=> ?_
          ·go_simp
           go_at_call 39
           refine(numbers_box HE.out HXr3.out [x.op,x.a,x.b] rfl rfl HK4.out (by have:=HL3.out;simp only[List.length_cons,List.length_nil] at⊢;omega)).mono ?_
           rintro e wz hq
           obtain⟨vz,rfl,hE,hbx⟩:=HE.out.post hq
           have HXpb:=Lib.hid (hbx _ _ HXpb.out)
           have HXfb:=Lib.hid (hbx _ _ HXfb.out)
           have HXxb:=Lib.hid (hbx _ _ HXxb.out)
           have HXr3:=Lib.hid (hbx _ _ HXr3.out)
           have HE:=Lib.hid hE
           clear hE hbx hq
           try dsimp only
           obtain⟨y0,y1,y2,y3,y4⟩:=cr5 _ xb HXxb.out.1
           simp only[gq] at y0 y1 y2 y3 y4
           refine hKK.out _ _ (⟨y0,y1,y2,y3,y4⟩) (fun hHeld=> ?_)
           clear hKK KK
           try simp only[nmC]
           refine rd2 11 14 (fun KK hKK=> ?_) fun KK hKK=> ?_
           ·go_simp
            go_at_call 40
            refine(text_any HE.out.own HE.out.low.size _ (by have:=HL3.out;simp only[List.length_append] at this⊢;omega)).mono ?_
            rintro e wz hq
            obtain⟨vz,rfl,hE,hbx⟩:=HE.out.post hq
            have HXpb:=Lib.hid (hbx _ _ HXpb.out)
            have HXfb:=Lib.hid (hbx _ _ HXfb.out)
            have HXxb:=Lib.hid (hbx _ _ HXxb.out)
            have HXr3:=Lib.hid (hbx _ _ HXr3.out)
            have HE:=Lib.hid hE
            clear hE hbx hq
            try dsimp only
            obtain⟨y0,y1,y2,y3,y4⟩:=cr5 _ xb HXxb.out.1
            simp only[gq] at y0 y1 y2 y3 y4
            refine hKK.out _ _ (⟨y0,y1,y2,y3,y4⟩) (fun hHeld=> ?_)
            clear hKK KK
            try simp only[nmC]
            refine rd1 14 fun KK hKK=> ?_
            go_simp
            obtain⟨wb,ab,eW,eA,hE,hX,hbx⟩:=HE.out.built (.cells #[.int .i64 x.at_] 3 (0,0))
            simp only[eW,eA]
            clear eW eA
            have HXr4:=Lib.hid hX
            have HXpb:=Lib.hid (hbx _ _ HXpb.out)
            have HXfb:=Lib.hid (hbx _ _ HXfb.out)
            have HXxb:=Lib.hid (hbx _ _ HXxb.out)
            have HXr3:=Lib.hid (hbx _ _ HXr3.out)
            have HE:=Lib.hid hE
            clear hE hX hbx
            obtain⟨y0,y1,y2,y3,y4⟩:=cr5 _ xb HXxb.out.1
            simp only[gq] at y0 y1 y2 y3 y4
            refine hKK.out _ _ (⟨y0,y1,y2,y3,y4⟩) (fun hHeld=> ?_)
            clear hKK KK
            try simp only[nmC]
            refine rd1 15 fun KK hKK=> ?_
            go_simp
            go_at_call 39
            refine(numbers_box HE.out HXr4.out [x.at_] rfl rfl HK5.out (by have:=HL3.out;simp only[List.length_append,List.length_cons,List.length_nil] at this⊢;omega)).mono ?_
            rintro e wz hq
            obtain⟨vz,rfl,hE,hbx⟩:=HE.out.post hq
            have HXpb:=Lib.hid (hbx _ _ HXpb.out)
            have HXfb:=Lib.hid (hbx _ _ HXfb.out)
            have HXxb:=Lib.hid (hbx _ _ HXxb.out)
            have HXr3:=Lib.hid (hbx _ _ HXr3.out)
            have HXr4:=Lib.hid (hbx _ _ HXr4.out)
            have HE:=Lib.hid hE
            clear hE hbx hq
            try dsimp only
            obtain⟨y0,y1,y2,y3,y4⟩:=cr5 _ xb HXxb.out.1
            simp only[gq] at y0 y1 y2 y3 y4
            refine hKK.out _ _ (⟨y0,y1,y2,y3,y4⟩) (fun hHeld=> ?_)
            clear hKK KK
            try simp only[nmC]
            refine tk 16 (h:= ?_)
            try simp only[nmC]
            refine wpAnyG_done (by kernel_rfl) ?_ _
            go_wp2_with fail
            go_roundw
            case rel=>exact⟨k+1,_,by simp,by omega,HE,HXpb,HXfb,HQ2⟩
            case measure=>simp[intOf];omega
           ·go_simp
            obtain⟨wb,ab,eW,eA,hE,hX,hbx⟩:=HE.out.built (.cells #[.int .i64 x.at_] 3 (0,0))
            simp only[eW,eA]
            clear eW eA
            have HXr4:=Lib.hid hX
            have HXpb:=Lib.hid (hbx _ _ HXpb.out)
            have HXfb:=Lib.hid (hbx _ _ HXfb.out)
            have HXxb:=Lib.hid (hbx _ _ HXxb.out)
            have HXr3:=Lib.hid (hbx _ _ HXr3.out)
            have HE:=Lib.hid hE
            clear hE hX hbx
            obtain⟨y0,y1,y2,y3,y4⟩:=cr5 _ xb HXxb.out.1
            simp only[gq] at y0 y1 y2 y3 y4
            refine hKK.out _ _ (⟨y0,y1,y2,y3,y4⟩) (fun hHeld=> ?_)
            clear hKK KK
            try simp only[nmC]
            refine rd1 11 fun KK hKK=> ?_
            go_simp
            go_at_call 40
            refine(text_any HE.out.own HE.out.low.size _ (by have:=HL3.out;simp only[List.length_append] at this⊢;omega)).mono ?_
            rintro e wz hq
            obtain⟨vz,rfl,hE,hbx⟩:=HE.out.post hq
            have HXpb:=Lib.hid (hbx _ _ HXpb.out)
            have HXfb:=Lib.hid (hbx _ _ HXfb.out)
            have HXxb:=Lib.hid (hbx _ _ HXxb.out)
            have HXr3:=Lib.hid (hbx _ _ HXr3.out)
            have HXr4:=Lib.hid (hbx _ _ HXr4.out)
            have HE:=Lib.hid hE
            clear hE hbx hq
            try dsimp only
            obtain⟨y0,y1,y2,y3,y4⟩:=cr5 _ xb HXxb.out.1
            simp only[gq] at y0 y1 y2 y3 y4
            refine hKK.out _ _ (⟨y0,y1,y2,y3,y4⟩) (fun hHeld=> ?_)
            clear hKK KK
            try simp only[nmC]
            refine rd1 15 fun KK hKK=> ?_
            go_simp
            go_at_call 39
            refine(numbers_box HE.out HXr4.out [x.at_] rfl rfl HK5.out (by have:=HL3.out;simp only[List.length_append,List.length_cons,List.length_nil] at this⊢;omega)).mono ?_
            rintro e wz hq
            obtain⟨vz,rfl,hE,hbx⟩:=HE.out.post hq
            have HXpb:=Lib.hid (hbx _ _ HXpb.out)
            have HXfb:=Lib.hid (hbx _ _ HXfb.out)
            have HXxb:=Lib.hid (hbx _ _ HXxb.out)
            have HXr3:=Lib.hid (hbx _ _ HXr3.out)
            have HXr4:=Lib.hid (hbx _ _ HXr4.out)
            have HE:=Lib.hid hE
            clear hE hbx hq
            try dsimp only
            obtain⟨y0,y1,y2,y3,y4⟩:=cr5 _ xb HXxb.out.1
            simp only[gq] at y0 y1 y2 y3 y4
            refine hKK.out _ _ (⟨y0,y1,y2,y3,y4⟩) (fun hHeld=> ?_)
            clear hKK KK
            try simp only[nmC]
            refine tk 16 (h:= ?_)
            try simp only[nmC]
            refine wpAnyG_done (by kernel_rfl) ?_ _
            go_wp2_with fail
            go_roundw
            case rel=>exact⟨k+1,_,by simp,by omega,HE,HXpb,HXfb,HQ2⟩
            case measure=>simp[intOf];omega
          ·go_simp
           obtain⟨wb,ab,eW,eA,hE,hX,hbx⟩:=HE.out.built (.cells #[.int .i64 x.at_] 3 (0,0))
           simp only[eW,eA]
           clear eW eA
           have HXr4:=Lib.hid hX
           have HXpb:=Lib.hid (hbx _ _ HXpb.out)
           have HXfb:=Lib.hid (hbx _ _ HXfb.out)
           have HXxb:=Lib.hid (hbx _ _ HXxb.out)
           have HXr3:=Lib.hid (hbx _ _ HXr3.out)
           have HE:=Lib.hid hE
           clear hE hX hbx
           obtain⟨y0,y1,y2,y3,y4⟩:=cr5 _ xb HXxb.out.1
           simp only[gq] at y0 y1 y2 y3 y4
           refine hKK.out _ _ (⟨y0,y1,y2,y3,y4⟩) (fun hHeld=> ?_)
           clear hKK KK
           try simp only[nmC]
           refine rd1 8 fun KK hKK=> ?_
           go_simp
           go_at_call 39
           refine(numbers_box HE.out HXr3.out [x.op,x.a,x.b] rfl rfl HK4.out (by have:=HL3.out;simp only[List.length_cons,List.length_nil] at⊢;omega)).mono ?_
           rintro e wz hq
           obtain⟨vz,rfl,hE,hbx⟩:=HE.out.post hq
           have HXpb:=Lib.hid (hbx _ _ HXpb.out)
           have HXfb:=Lib.hid (hbx _ _ HXfb.out)
           have HXxb:=Lib.hid (hbx _ _ HXxb.out)
           have HXr3:=Lib.hid (hbx _ _ HXr3.out)
           have HXr4:=Lib.hid (hbx _ _ HXr4.out)
           have HE:=Lib.hid hE
           clear hE hbx hq
           try dsimp only
           obtain⟨y0,y1,y2,y3,y4⟩:=cr5 _ xb HXxb.out.1
           simp only[gq] at y0 y1 y2 y3 y4
           refine hKK.out _ _ (⟨y0,y1,y2,y3,y4⟩) (fun hHeld=> ?_)
           clear hKK KK
           try simp only[nmC]
           refine rd1 11 fun KK hKK=> ?_
           go_simp
           go_at_call 40
           refine(text_any HE.out.own HE.out.low.size _ (by have:=HL3.out;simp only[List.length_append] at this⊢;omega)).mono ?_
           rintro e wz hq
           obtain⟨vz,rfl,hE,hbx⟩:=HE.out.post hq
           have HXpb:=Lib.hid (hbx _ _ HXpb.out)
           have HXfb:=Lib.hid (hbx _ _ HXfb.out)
           have HXxb:=Lib.hid (hbx _ _ HXxb.out)
           have HXr3:=Lib.hid (hbx _ _ HXr3.out)
           have HXr4:=Lib.hid (hbx _ _ HXr4.out)
           have HE:=Lib.hid hE
           clear hE hbx hq
           try dsimp only
           obtain⟨y0,y1,y2,y3,y4⟩:=cr5 _ xb HXxb.out.1
           simp only[gq] at y0 y1 y2 y3 y4
           refine hKK.out _ _ (⟨y0,y1,y2,y3,y4⟩) (fun hHeld=> ?_)
           clear hKK KK
           try simp only[nmC]
           refine rd1 15 fun KK hKK=> ?_
           go_simp
           go_at_call 39
           refine(numbers_box HE.out HXr4.out [x.at_] rfl rfl HK5.out (by have:=HL3.out;simp only[List.length_append,List.length_cons,List.length_nil] at this⊢;omega)).mono ?_
           rintro e wz hq
           obtain⟨vz,rfl,hE,hbx⟩:=HE.out.post hq
           have HXpb:=Lib.hid (hbx _ _ HXpb.out)
           have HXfb:=Lib.hid (hbx _ _ HXfb.out)
           have HXxb:=Lib.hid (hbx _ _ HXxb.out)
           have HXr3:=Lib.hid (hbx _ _ HXr3.out)
           have HXr4:=Lib.hid (hbx _ _ HXr4.out)
           have HE:=Lib.hid hE
           clear hE hbx hq
           try dsimp only
           obtain⟨y0,y1,y2,y3,y4⟩:=cr5 _ xb HXxb.out.1
           simp only[gq] at y0 y1 y2 y3 y4
           refine hKK.out _ _ (⟨y0,y1,y2,y3,y4⟩) (fun hHeld=> ?_)
           clear hKK KK
           try simp only[nmC]
           refine tk 16 (h:= ?_)
           try simp only[nmC]
           refine wpAnyG_done (by kernel_rfl) ?_ _
           go_wp2_with fail
           go_roundw
           case rel=>exact⟨k+1,_,by simp,by omega,HE,HXpb,HXfb,HQ2⟩
           case measure=>simp[intOf];omega
         ·go_simp
          obtain⟨wb,ab,eW,eA,hE,hX,hbx⟩:=HE.out.built (.cells #[.int .i64 x.at_] 3 (0,0))
          simp only[eW,eA]
          clear eW eA
          have HXr4:=Lib.hid hX
          have HXpb:=Lib.hid (hbx _ _ HXpb.out)
          have HXfb:=Lib.hid (hbx _ _ HXfb.out)
          have HXxb:=Lib.hid (hbx _ _ HXxb.out)
          have HE:=Lib.hid hE
          clear hE hX hbx
          obtain⟨y0,y1,y2,y3,y4⟩:=cr5 _ xb HXxb.out.1
          simp only[gq] at y0 y1 y2 y3 y4
          refine hKK.out _ _ (⟨y0,y1,y2,y3,y4⟩) (fun hHeld=> ?_)
          clear hKK KK
          try simp only[nmC]
          refine rd1 7 fun KK hKK=> ?_
          go_simp
          obtain⟨wb,ab,eW,eA,hE,hX,hbx⟩:=HE.out.built (.cells #[.int .i64 x.op,.int .i64 x.a,.int .i64 x.b] 3 (0,0))
          simp only[eW,eA]
          clear eW eA
          have HXr3:=Lib.hid hX
          have HXpb:=Lib.hid (hbx _ _ HXpb.out)
          have HXfb:=Lib.hid (hbx _ _ HXfb.out)
          have HXxb:=Lib.hid (hbx _ _ HXxb.out)
          have HXr4:=Lib.hid (hbx _ _ HXr4.out)
          have HE:=Lib.hid hE
          clear hE hX hbx
          obtain⟨y0,y1,y2,y3,y4⟩:=cr5 _ xb HXxb.out.1
          simp only[gq] at y0 y1 y2 y3 y4
          refine hKK.out _ _ (⟨y0,y1,y2,y3,y4⟩) (fun hHeld=> ?_)
          clear hKK KK
          try simp only[nmC]
          refine rd1 8 fun KK hKK=> ?_
          go_simp
          go_at_call 39
          refine(numbers_box HE.out HXr3.out [x.op,x.a,x.b] rfl rfl HK4.out (by have:=HL3.out;simp only[List.length_cons,List.length_nil] at⊢;omega)).mono ?_
          rintro e wz hq
          obtain⟨vz,rfl,hE,hbx⟩:=HE.out.post hq
          have HXpb:=Lib.hid (hbx _ _ HXpb.out)
          have HXfb:=Lib.hid (hbx _ _ HXfb.out)
          have HXxb:=Lib.hid (hbx _ _ HXxb.out)
          have HXr3:=Lib.hid (hbx _ _ HXr3.out)
          have HXr4:=Lib.hid (hbx _ _ HXr4.out)
          have HE:=Lib.hid hE
          clear hE hbx hq
          try dsimp only
          obtain⟨y0,y1,y2,y3,y4⟩:=cr5 _ xb HXxb.out.1
          simp only[gq] at y0 y1 y2 y3 y4
          refine hKK.out _ _ (⟨y0,y1,y2,y3,y4⟩) (fun hHeld=> ?_)
          clear hKK KK
          try simp only[nmC]
          refine rd1 11 fun KK hKK=> ?_
          go_simp
          go_at_call 40
          refine(text_any HE.out.own HE.out.low.size _ (by have:=HL3.out;simp only[List.length_append] at this⊢;omega)).mono ?_
          rintro e wz hq
          obtain⟨vz,rfl,hE,hbx⟩:=HE.out.post hq
          have HXpb:=Lib.hid (hbx _ _ HXpb.out)
          have HXfb:=Lib.hid (hbx _ _ HXfb.out)
          have HXxb:=Lib.hid (hbx _ _ HXxb.out)
          have HXr3:=Lib.hid (hbx _ _ HXr3.out)
          have HXr4:=Lib.hid (hbx _ _ HXr4.out)
          have HE:=Lib.hid hE
          clear hE hbx hq
          try dsimp only
          obtain⟨y0,y1,y2,y3,y4⟩:=cr5 _ xb HXxb.out.1
          simp only[gq] at y0 y1 y2 y3 y4
          refine hKK.out _ _ (⟨y0,y1,y2,y3,y4⟩) (fun hHeld=> ?_)
          clear hKK KK
          try simp only[nmC]
          refine rd1 15 fun KK hKK=> ?_
          go_simp
          go_at_call 39
          refine(numbers_box HE.out HXr4.out [x.at_] rfl rfl HK5.out (by have:=HL3.out;simp only[List.length_append,List.length_cons,List.length_nil] at this⊢;omega)).mono ?_
          rintro e wz hq
          obtain⟨vz,rfl,hE,hbx⟩:=HE.out.post hq
          have HXpb:=Lib.hid (hbx _ _ HXpb.out)
          have HXfb:=Lib.hid (hbx _ _ HXfb.out)
          have HXxb:=Lib.hid (hbx _ _ HXxb.out)
          have HXr3:=Lib.hid (hbx _ _ HXr3.out)
          have HXr4:=Lib.hid (hbx _ _ HXr4.out)
          have HE:=Lib.hid hE
          clear hE hbx hq
          try dsimp only
          obtain⟨y0,y1,y2,y3,y4⟩:=cr5 _ xb HXxb.out.1
          simp only[gq] at y0 y1 y2 y3 y4
          refine hKK.out _ _ (⟨y0,y1,y2,y3,y4⟩) (fun hHeld=> ?_)
          clear hKK KK
          try simp only[nmC]
          refine tk 16 (h:= ?_)
          try simp only[nmC]
          refine wpAnyG_done (by kernel_rfl) ?_ _
          go_wp2_with fail
          go_roundw
          case rel=>exact⟨k+1,_,by simp,by omega,HE,HXpb,HXfb,HQ2⟩
          case measure=>simp[intOf];omega
        ·obtain rfl:k=n:=by omega
         have he:=HQ.out
         rw[List.drop_of_length_le (by rw[HN.out];exact Nat.le_refl _)] at he
         simp only[List.flatMap_nil,List.nil_append] at he
         have HQ3:Hid (b1++(p.funcs.drop (q+1)).flatMap funcB=T):=Lib.hid (by rw[HRR.out];exact he)
         clear he
         go_wp2_with fail
         go_roundw
         case rel=>exact⟨q+1,b1,by simp,by omega,HE,HXpb,HQ3⟩
         case measure=>simp[intOf];omega
    ·obtain rfl:q=nf:=by omega
     have he:=HQ.out
     rw[List.drop_of_length_le (by rw[HNF.out];exact Nat.le_refl _)] at he
     simp only[List.flatMap_nil,List.append_nil] at he
     subst he
     obtain⟨gz,cz,rfl,_⟩:=HE5.out.own.form (by have:=congrArg List.length HT.out;simp at this;omega)
     have hcv:(convert 75 9 (.slice (some ⟨gz,0,none⟩) B.length cz)).run Tryz.prog wr= .ok (.string ⟨B.toArray⟩) wr:=by
      refine run_convert_bytes_back wr _ _ 5 ⟨gz,0,none⟩ cz B Tryz.underlying75 Tryz.underlying5 Tryz.underlying9 fun j hj=> ?_
      refine HE5.out.own.cells (g:=gz) rfl j _ ?_
      simp[Lib.byteCells,hj]
     go_wp2_with fail
     go_ret2
     exact⟨HE5.out.low,rfl⟩
end Go.Proofs.YtagnicbknbmccaaGreatDoor
