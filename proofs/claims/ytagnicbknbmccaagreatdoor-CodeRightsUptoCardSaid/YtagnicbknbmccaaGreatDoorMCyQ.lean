/- guiselaw13.lent: the two rows, the copy of the names. What stands behind the lists that guiselaw13.lent lays. guiselaw13.lent: the program laid anew, and the marks behind each list. Right twice, by the program and by the document: what told and fresh say of both. -/
import Derived.Test.YtagnicbknbmccaaGreatDoorMCwF
import Derived.Test.YtagnicbknbmccaaGreatDoorSqC
import Derived.Test.YtagnicbknbmccaaGreatDoorMCyP
import Derived.Test.YtagnicbknbmccaaGreatDoorMCyK
import Derived.Test.YtagnicbknbmccaaGreatDoorRsL
set_option maxRecDepth 100000
set_option maxHeartbeats 40000000
namespace Go.Proofs.YtagnicbknbmccaaGreatDoor
open Go.RowKit
theorem make_k {T e:TypeId} {i:TypeInfo} {z:Value} {size bytes:Nat} (ht:Tryz.prog.underlying T=some (.slice e)) (hi:Tryz.prog.info? e=some i) (hz0:i.zero=some z) (hz1:i.size=size) (hz2:i.bytes=bytes) (n:Nat) (hn:bytes*(n+2)≤281474976710656) (hn2:n≤1000000):
  ∃cs:List Value,cs.length=(n+2)*size∧∀W,(Instr.makeSlice T (.int .i64 ((n:Int)+2)) (.int .i64 ((n:Int)+2))).run Tryz.prog W= .ok (.slice (some ⟨W.heap.size,0,none⟩) (n+2) (n+2)) (W.alloc (.cells cs.toArray e (0,0))):=by
 refine⟨(madeCells z.cells ((n+2)*size)).toList,by rw[Array.length_toList,size_madeCells],fun W=> ?_⟩
 have:=run_make (P:=Tryz.prog) W T e i z ht hi hz0 .i64 .i64 ((n:Int)+2) ((n:Int)+2) (by omega) (Int.le_refl _) (by rw[hz2];have h2:((bytes*(n+2):Nat):Int)≤281474976710656:=(by omega);rw[Int.natCast_mul] at h2;exact h2) (by omega)
 rw[this,hz1,show((n:Int)+2).toNat=n+2 by omega]
theorem strInfoC:(Tryz.prog.info? 9).map (fun i=>(i.zero,i.size,i.bytes))=some (some (.string ⟨#[]⟩),1,16):=by kernel_rfl
theorem named_alloc {lo:Nat} {w W:World} (hl:Below lo w W) (hlo:lo≤W.heap.size) (o:Obj):∃Wn rn,W.alloc o=Wn∧W.heap.size=rn∧Below lo w Wn∧lo≤Wn.heap.size∧lo≤rn∧Wn.heap[rn]? =some o∧rn<Wn.heap.size∧∀k x,W.heap[k]? =some x→Wn.heap[k]? =some x∧k≠rn:=
 ⟨_,_,rfl,rfl,hl.alloc hlo o,by rw[World.size_alloc];omega,hlo,heap_alloc_new _ _,by rw[World.size_alloc];omega,fun k x hx=>by
  have:=(Array.getElem?_eq_some_iff.1 hx).1
  exact⟨(heap_alloc_old _ _ this).trans hx,by omega⟩⟩
section
variable {w W:World} {p:Cp} {n m:Nat} {v0 v1:Value} {pb rb ob gb fb lo k:Nat} {ys:List (Cf×Fv)}
theorem LtS.pc (h:LtS w W p n m v0 v1 pb rb ob gb fb lo k ys):W.cell? ⟨pb,0,none⟩=some v0∧W.cell? ⟨pb,1,none⟩=some v1:=by
 obtain⟨c0,c1⟩:=cr2 W pb h.hpb
 simp only[gq] at c0 c1
 exact⟨c0,c1⟩
theorem LtS.oc (h:LtS w W p n m v0 v1 pb rb ob gb fb lo k ys):W.cell? ⟨ob,0,none⟩=some (.slice (some ⟨fb,0,none⟩) (n+2) (n+2))∧W.cell? ⟨ob,1,none⟩=some (.slice (some ⟨gb,0,none⟩) (m+2) (m+2)):=by
 obtain⟨c0,c1⟩:=cr2 W ob h.hob
 simp only[gq] at c0 c1
 exact⟨c0,c1⟩
theorem LtS.gc (h:LtS w W p n m v0 v1 pb rb ob gb fb lo k ys) {j:Nat} (hj:j<m+2):(∃u,W.cell? ⟨gb,j,none⟩=some u)∧W.frozen? ⟨gb,j,none⟩=false:=by
 obtain⟨cs,h1,_,h2⟩:=h.hgb
 have hjl:j<cs.length:=by omega
 refine⟨⟨cs[j],(cell_of_row W gb j _ _ _ h2).trans ?_⟩,frozen_of_row W gb j _ _ h2⟩
 rw[List.getElem?_toArray]
 exact List.getElem?_eq_getElem hjl
theorem LtS.fc (h:LtS w W p n m v0 v1 pb rb ob gb fb lo k ys) {j:Nat} (hj:j<(n+2)*6):(∃u,W.cell? ⟨fb,j,none⟩=some u)∧W.frozen? ⟨fb,j,none⟩=false:=by
 obtain⟨cs,h1,_,h2⟩:=h.hfb
 have hjl:j<cs.length:=by omega
 refine⟨⟨cs[j],(cell_of_row W fb j _ _ _ h2).trans ?_⟩,frozen_of_row W fb j _ _ h2⟩
 rw[List.getElem?_toArray]
 exact List.getElem?_eq_getElem hjl
end
theorem partsN_mem {f:Cf}:∀ {l:List Cf},f∈l→f.code.length+f.taken.length≤partsN l
 | [],h=>(nomatch h)
 |g::l,h=>by
  rw[partsN_cons]
  rcases List.mem_cons.1 h with rfl|h
  ·omega
  ·have:=partsN_mem h;omega
theorem lent_result (tmps:Array Value) (W:World) (g:Nat) (v0 v1:Value) (h2:tmps.getD 2 undef= .pointer (some ⟨g,0,none⟩)) (e0:W.cell? ⟨g,0,none⟩=some v0) (e1:W.cell? ⟨g,1,none⟩=some v1):
  (results Tryz.f15 tmps).run Tryz.prog W= .ok (.agg #[v0,v1]) W:=by
 have h2':tmps[2]?.getD undef= .pointer (some ⟨g,0,none⟩):=by simpa using h2
 have hres:Tryz.f15.results= #[ResultVar.cell 2 27]:=rfl
 simp[results,go_sem,h2',e0,e1]
def markS:ByteArray:=⟨#[109,97,114,107]⟩
def MgAt (W:World) (gb fb n m jm:Nat):Prop:=∀i,i<jm→W.cell? ⟨gb,m+i,none⟩=some (.string markS)∧W.cell? ⟨fb,(n+i)*6,none⟩=some (.string markS)
def MiAt (W:World) (tb cb tn cn jm:Nat):Prop:=∀i,i<jm→W.cell? ⟨tb,tn+i,none⟩=some (.int .i64 (-71))∧W.cell? ⟨cb,(cn+i)*5+3,none⟩=some (.string markS)
def MkAt (W:World) (lo:Nat) (x:Cf×Fv):Prop:=∃tb cb,x.2.ta=some ⟨tb,0,none⟩∧x.2.ca=some ⟨cb,0,none⟩∧x.1.taken.length+2≤x.2.tc∧x.1.code.length+2≤x.2.cc∧lo≤tb∧tb<W.heap.size∧lo≤cb∧cb<W.heap.size∧MiAt W tb cb x.1.taken.length x.1.code.length 2
theorem MgAt.keep {W W':World} {gb fb n m jm:Nat} (h:MgAt W gb fb n m jm) (hg:W'.heap[gb]? =W.heap[gb]?) (hf:W'.heap[fb]? =W.heap[fb]?):MgAt W' gb fb n m jm:=fun i hi=>
 ⟨(World.cell?_of_block (w:=W) (a:=⟨gb,m+i,none⟩) hg).trans (h i hi).1,(World.cell?_of_block (w:=W) (a:=⟨fb,(n+i)*6,none⟩) hf).trans (h i hi).2⟩
theorem MiAt.keep {W W':World} {tb cb tn cn jm:Nat} (h:MiAt W tb cb tn cn jm) (ht:W'.heap[tb]? =W.heap[tb]?) (hc:W'.heap[cb]? =W.heap[cb]?):MiAt W' tb cb tn cn jm:=fun i hi=>
 ⟨(World.cell?_of_block (w:=W) (a:=⟨tb,tn+i,none⟩) ht).trans (h i hi).1,(World.cell?_of_block (w:=W) (a:=⟨cb,(cn+i)*5+3,none⟩) hc).trans (h i hi).2⟩
theorem MkAt.keep {W W':World} {lo:Nat} {x:Cf×Fv} (h:MkAt W lo x) (hs:W.heap.size≤W'.heap.size) (hk:∀b,lo≤b→b<W.heap.size→W'.heap[b]? =W.heap[b]?):MkAt W' lo x:=by
 obtain⟨tb,cb,h1,h2,h3,h4,h5,h6,h7,h8,h9⟩:=h
 exact⟨tb,cb,h1,h2,h3,h4,h5,by omega,h7,by omega,h9.keep (hk tb h5 h6) (hk cb h7 h8)⟩
theorem cell_setR {W:World} {b j:Nat} {cs:List Value} {t:TypeId} (h:W.heap[b]? =some (.cells cs.toArray t (0,0))) (v:Value) (i:Nat):(W.setCell ⟨b,j,none⟩ v).cell? ⟨b,i,none⟩=if i=j∧i<cs.length then some v else W.cell? ⟨b,i,none⟩:=by
 rw[cell_of_row _ b i _ _ _ (set_heap h v),cell_of_row W b i _ _ _ h,List.getElem?_toArray,List.getElem?_toArray,List.getElem?_set]
 by_cases e:j=i
 ·subst e
  rw[if_pos rfl]
  by_cases hl:j<cs.length
  ·rw[if_pos hl,if_pos ⟨rfl,hl⟩]
  ·rw[if_neg hl,if_neg (fun hh=>hl hh.2),List.getElem?_eq_none (by omega)]
 ·rw[if_neg e,if_neg (fun hh=>e hh.1.symm)]
theorem MgAt.next {W:World} {gb fb n m jm:Nat} (h:MgAt W gb fb n m jm) (hne:gb≠fb) {cg cf:List Value} {t u:TypeId} (hg:W.heap[gb]? =some (.cells cg.toArray t (0,0))) (hf:W.heap[fb]? =some (.cells cf.toArray u (0,0))) (lg:m+jm<cg.length) (lf:(n+jm)*6<cf.length):
  MgAt ((W.setCell ⟨gb,m+jm,none⟩ (.string markS)).setCell ⟨fb,(n+jm)*6,none⟩ (.string markS)) gb fb n m (jm+1):=fun i hi=>by
 have hf2:(W.setCell ⟨gb,m+jm,none⟩ (.string markS)).heap[fb]? =some (.cells cf.toArray u (0,0)):=(Below.heap_setCell _ _ _ _ hne.symm).trans hf
 constructor
 ·rw[World.cell?_of_block (w:=W.setCell ⟨gb,m+jm,none⟩ (.string markS)) (a:=⟨gb,m+i,none⟩) (Below.heap_setCell _ _ _ _ hne),cell_setR hg]
  by_cases e:i=jm
  ·subst e;rw[if_pos ⟨rfl,lg⟩]
  ·rw[if_neg (fun hh=>e (by omega))];exact(h i (by omega)).1
 ·rw[cell_setR hf2]
  by_cases e:i=jm
  ·subst e;rw[if_pos ⟨rfl,lf⟩]
  ·rw[if_neg (fun hh=>e (by omega)),World.cell?_of_block (w:=W) (a:=⟨fb,(n+i)*6,none⟩) (Below.heap_setCell _ _ _ _ hne.symm)];exact(h i (by omega)).2
theorem MgAt.one {W:World} {gb fb n m jm:Nat} (h:MgAt W gb fb n m jm) (hne:gb≠fb) {cf:List Value} {u:TypeId} (hf:W.heap[fb]? =some (.cells cf.toArray u (0,0))) {j:Nat} (hj:j<n*6) (v:Value):
  MgAt (W.setCell ⟨fb,j,none⟩ v) gb fb n m jm∧(W.setCell ⟨fb,j,none⟩ v).heap[fb]? =some (.cells (cf.set j v).toArray u (0,0)):=
 ⟨fun i hi=>⟨(World.cell?_of_block (w:=W) (a:=⟨gb,m+i,none⟩) (Below.heap_setCell _ _ _ _ hne)).trans (h i hi).1,by rw[cell_setR hf,if_neg (fun hh=>by omega)];exact(h i hi).2⟩,set_heap hf v⟩
theorem MgAt.six {W:World} {gb fb n m jm:Nat} (h:MgAt W gb fb n m jm) (hne:gb≠fb) {cf:List Value} {u:TypeId} (hf:W.heap[fb]? =some (.cells cf.toArray u (0,0))) {k:Nat} (hk:k<n) (a b c d e f:Value):
  MgAt ((((((W.setCell ⟨fb,k*6,none⟩ a).setCell ⟨fb,k*6+1,none⟩ b).setCell ⟨fb,k*6+2,none⟩ c).setCell ⟨fb,k*6+3,none⟩ d).setCell ⟨fb,k*6+4,none⟩ e).setCell ⟨fb,k*6+5,none⟩ f) gb fb n m jm:=by
 obtain⟨h1,f1⟩:=h.one hne hf (j:=k*6) (by omega) a
 obtain⟨h2,f2⟩:=h1.one hne f1 (j:=k*6+1) (by omega) b
 obtain⟨h3,f3⟩:=h2.one hne f2 (j:=k*6+2) (by omega) c
 obtain⟨h4,f4⟩:=h3.one hne f3 (j:=k*6+3) (by omega) d
 obtain⟨h5,f5⟩:=h4.one hne f4 (j:=k*6+4) (by omega) e
 exact(h5.one hne f5 (j:=k*6+5) (by omega) f).1
theorem MiAt.next {W:World} {tb cb tn cn jm:Nat} (h:MiAt W tb cb tn cn jm) (hne:tb≠cb) {ct cc:List Value} {t u:TypeId} (ht:W.heap[tb]? =some (.cells ct.toArray t (0,0))) (hc:W.heap[cb]? =some (.cells cc.toArray u (0,0))) (lt:tn+jm<ct.length) (lc:(cn+jm)*5+3<cc.length):
  MiAt ((W.setCell ⟨tb,tn+jm,none⟩ (.int .i64 (-71))).setCell ⟨cb,(cn+jm)*5+3,none⟩ (.string markS)) tb cb tn cn (jm+1):=fun i hi=>by
 have hc2:(W.setCell ⟨tb,tn+jm,none⟩ (.int .i64 (-71))).heap[cb]? =some (.cells cc.toArray u (0,0)):=(Below.heap_setCell _ _ _ _ hne.symm).trans hc
 constructor
 ·rw[World.cell?_of_block (w:=W.setCell ⟨tb,tn+jm,none⟩ (.int .i64 (-71))) (a:=⟨tb,tn+i,none⟩) (Below.heap_setCell _ _ _ _ hne),cell_setR ht]
  by_cases e:i=jm
  ·subst e;rw[if_pos ⟨rfl,lt⟩]
  ·rw[if_neg (fun hh=>e (by omega))];exact(h i (by omega)).1
 ·rw[cell_setR hc2]
  by_cases e:i=jm
  ·subst e;rw[if_pos ⟨rfl,lc⟩]
  ·rw[if_neg (fun hh=>e (by omega)),World.cell?_of_block (w:=W) (a:=⟨cb,(cn+i)*5+3,none⟩) (Below.heap_setCell _ _ _ _ hne.symm)];exact(h i (by omega)).2
theorem MkAt.weak {W:World} {lo lo':Nat} {x:Cf×Fv} (h:MkAt W lo x) (hl:lo'≤lo):MkAt W lo' x:=by
 obtain⟨tb,cb,h1,h2,h3,h4,h5,h6,h7,h8,h9⟩:=h
 exact⟨tb,cb,h1,h2,h3,h4,by omega,h6,by omega,h8,h9⟩
theorem LtS.finalP {w W W':World} {p:Cp} {n m:Nat} {v0 v1:Value} {pb rb ob gb fb lo:Nat} {ys:List (Cf×Fv)} (h:LtS w W p n m v0 v1 pb rb ob gb fb lo n ys) (hn:p.funcs.length=n) (hm:p.globals.length=m) (hs:W'.heap.size=W.heap.size) (hk:∀i,i≠ob→i≠rb→W'.heap[i]? =W.heap[i]?):
  PgAt W' p n m (some ⟨fb,0,none⟩) (some ⟨gb,0,none⟩) ys:=by
 have hd:=h.d
 obtain⟨cg,g1,g2,g3⟩:=h.hgb
 obtain⟨cf,f1,f2,f3⟩:=h.hfb
 have g4:=(hk gb (by omega) (by omega)).trans g3
 have f4:=(hk fb (by omega) (by omega)).trans f3
 refine⟨hn,hm, ?_,(RowHi.of_block (lo:=0) f4 (Nat.zero_le _) fun j v hj=>take_at f2 hj).row,(RowHi.of_block (lo:=0) g4 (Nat.zero_le _) fun j v hj=>take_at g2 hj).row,fun x hx=> ?_⟩
 ·rw[h.yf,List.take_of_length_le (by omega)]
 ·have hr:=h.rows x hx
  exact⟨(hr.1.keep (by omega) fun i hi _=>hk i (by omega) (by omega)).row,(hr.2.1.keep (by omega) fun i hi _=>hk i (by omega) (by omega)).row,hr.2.2⟩
theorem lent_marks {w:World} {p:Cp} {v:Value} (h:LiesC w w.heap.size p v) (hok:CpOk p) (hsm:p.globals.length+p.funcs.length+partsN p.funcs≤90000):
  Calls Tryz.prog 15 #[v] w fun e w'=>∃n m fb gb ys,e= .returned (.agg #[.slice (some ⟨fb,0,none⟩) n (n+2),.slice (some ⟨gb,0,none⟩) m (m+2)])∧PgAt w' p n m (some ⟨fb,0,none⟩) (some ⟨gb,0,none⟩) ys∧MgAt w' gb fb n m 2∧(∀y∈ys,MkAt w' w.heap.size y)∧w.heap.size≤fb∧w.heap.size≤gb∧Below w.heap.size w w':=by
 obtain⟨n,m,fa,fc,ga,gc,xs,rfl,hnf,hmg,hp⟩:=h.pieces
 have hn9:n≤90000:=by rw[←hp.fn];omega
 have hm9:m≤90000:=by rw[←hp.gn];omega
 obtain⟨js,hjs,hjz,hjs1,hjs2⟩:=info_parts strInfoC
 obtain⟨jf,hjf,hjz2,hjf1,hjf2⟩:=info_parts funcInfo
 obtain⟨ji,hji,hjz3,hji1,hji2⟩:=info_parts intInfo
 obtain⟨jx,hjx,hjz4,hjx1,hjx2⟩:=info_parts instInfo
 obtain⟨cg,hcg,hmg2⟩:=make_k Tryz.underlying25 hjs hjz hjs1 hjs2 m (by omega) (by omega)
 obtain⟨cf,hcf,hmf2⟩:=make_k Tryz.underlying24 hjf hjz2 hjf1 hjf2 n (by omega) (by omega)
 have HP:=Lib.hid hp
 have HOK:=Lib.hid hok
 have HSM:=Lib.hid hsm
 have hW:∀X:World,X=(w.alloc (.cells #[.slice fa n fc,.slice ga m gc] 27 (0,0))).alloc (.cells #[.slice none 0 0,.slice none 0 0] 27 (0,0))→Below w.heap.size w X∧X.heap[w.heap.size]? =some (.cells #[.slice fa n fc,.slice ga m gc] 27 (0,0))∧X.heap[w.heap.size+1]? =some (.cells #[.slice none 0 0,.slice none 0 0] 27 (0,0))∧X.heap.size=w.heap.size+2:=by
  rintro X rfl
  have h2:=heap_alloc_new (w.alloc (.cells #[.slice fa n fc,.slice ga m gc] 27 (0,0))) (.cells #[.slice none 0 0,.slice none 0 0] 27 (0,0))
  rw[World.size_alloc] at h2
  exact⟨((Below.refl _ _).alloc (Nat.le_refl _) _).alloc (by simp) _,(heap_alloc_old _ _ (by simp)).trans (heap_alloc_new w _),h2,by simp⟩
 have HW:=Lib.hid hW
 clear h hp hok hsm hW
 go_enter Tryz.func15,Tryz.ntmps15
 go_upto_region 1 with fail
 obtain⟨hl,hpb,hrb,hsz⟩:=HW.out _ rfl
 obtain⟨W1,hW1⟩:∃W1,(w.alloc (.cells #[.slice fa n fc,.slice ga m gc] 27 (0,0))).alloc (.cells #[.slice none 0 0,.slice none 0 0] 27 (0,0))=W1:=⟨_,rfl⟩
 simp only[hW1] at hl hpb hrb hsz⊢
 obtain⟨pb,hpbe⟩:∃pb,w.heap.size=pb:=⟨_,rfl⟩
 simp only[hpbe] at hl hpb hrb hsz⊢
 obtain⟨rb,hrbe⟩:∃rb,pb+1=rb:=⟨_,rfl⟩
 simp only[hrbe] at hrb⊢
 have hwm:IntKind.i64.wrap ((m:Int)+2)=(m:Int)+2:=by rw[IntKind.wrap_i64];omega
 have hwn:IntKind.i64.wrap ((n:Int)+2)=(n:Int)+2:=by rw[IntKind.wrap_i64];omega
 have hpr:pb≠rb:=by omega
 have hple:pb≤rb:=by omega
 clear hW1 HW
 go_cut [3] (fun s3 wx=>∃ob gb fb cs:_,s3= .pointer (some ⟨ob,0,none⟩)∧(cs:List Value).length=(m+2)*1∧Hid (wx.heap[gb]? =some (.cells cs.toArray 9 (0,0)))∧Hid (Below pb w wx)∧Hid (wx.heap[pb]? =some (.cells #[.slice fa n fc,.slice ga m gc] 27 (0,0)))∧Hid (wx.heap[rb]? =some (.cells #[.slice none 0 0,.slice none 0 0] 27 (0,0)))∧Hid (wx.heap[ob]? =some (.cells #[.slice (some ⟨fb,0,none⟩) (n+2) (n+2),.slice (some ⟨gb,0,none⟩) (m+2) (m+2)] 27 (0,0)))∧Hid (wx.heap[fb]? =some (.cells cf.toArray 33 (0,0)))∧
  Hid (pb≤gb∧pb≤fb∧pb≤ob∧pb≠gb∧pb≠fb∧rb≠gb∧rb≠fb∧ob≠gb∧ob≠fb∧gb≠fb∧ob≠rb∧ob≠pb))
 case first=>
  obtain⟨p0,p1⟩:=cr2 W1 pb hpb
  simp only[gq] at p0 p1
  have HB:Hid (Below pb w W1.drew):=Lib.hid ⟨hl.os,hl.tape,hl.output,hl.size,hl.block⟩
  have HXpb:=Lib.hid (show W1.drew.heap[pb]? =some (.cells #[.slice fa n fc,.slice ga m gc] 27 (0,0)) from hpb)
  have HXrb:=Lib.hid (show W1.drew.heap[rb]? =some (.cells #[.slice none 0 0,.slice none 0 0] 27 (0,0)) from hrb)
  have hle:pb≤W1.drew.heap.size:=by show pb≤W1.heap.size;omega
  have p0:W1.drew.cell? ⟨pb,0,none⟩=some (.slice fa n fc):=p0
  have p1:W1.drew.cell? ⟨pb,1,none⟩=some (.slice ga m gc):=p1
  clear hl hpb hrb hsz
  refine wp_region_G [] (fun u=>u.cell? ⟨pb,0,none⟩=some (.slice fa n fc)∧u.cell? ⟨pb,1,none⟩=some (.slice ga m gc)) (by rfl) ?_ (fun hHeld=> ?_)
  ·exact⟨p0,p1⟩
  generalize hwd:World.drew W1=wd at HB HXpb HXrb hle p0 p1 hHeld⊢
  refine tk 0 (h:=tk 1 (h:=tk 2 (h:=tk 3 (h:=tk 5 (h:=tk 6 (h:= ?_))))))
  try simp only[nmC]
  refine tk 7 (h:=tk 8 (h:= ?_))
  try simp only[nmC]
  refine wpAnyG_ready (rs:=[4,9,11]) (by kernel_rfl) (by simp) ?_
  refine AllReadyG.cons rfl (fun KK hKK=> ?_) (AllReadyG.cons rfl (fun KK hKK=> ?_) (AllReadyG.cons rfl (fun KK hKK=> ?_) AllReadyG.nil))
  ·go_simp
   obtain⟨wn,gb,eW,eA,hB,hle,hlgb,hX,hlt,hk⟩:=named_alloc HB.out hle (.cells cg.toArray 9 (0,0))
   simp only[eW,eA]
   clear eW eA
   have HXgb:=Lib.hid hX
   have hnpbgb:=(hk _ _ HXpb.out).2
   have HXpb:=Lib.hid (hk _ _ HXpb.out).1
   have hnrbgb:=(hk _ _ HXrb.out).2
   have HXrb:=Lib.hid (hk _ _ HXrb.out).1
   have HB:=Lib.hid hB
   clear hB hX hk
   obtain⟨p0,p1⟩:=cr2 _ pb HXpb.out
   simp only[gq] at p0 p1
   refine hKK.out _ _ (⟨p0,p1⟩) (fun hHeld=> ?_)
   clear hKK KK
   try simp only[nmC]
   refine rd2 9 11 (fun KK hKK=> ?_) fun KK hKK=> ?_
   ·go_simp
    obtain⟨wn,fb,eW,eA,hB,hle,hlfb,hX,hlt,hk⟩:=named_alloc HB.out hle (.cells cf.toArray 33 (0,0))
    simp only[eW,eA]
    clear eW eA
    have HXfb:=Lib.hid hX
    have hnpbfb:=(hk _ _ HXpb.out).2
    have HXpb:=Lib.hid (hk _ _ HXpb.out).1
    have hnrbfb:=(hk _ _ HXrb.out).2
    have HXrb:=Lib.hid (hk _ _ HXrb.out).1
    have hngbfb:=(hk _ _ HXgb.out).2
    have HXgb:=Lib.hid (hk _ _ HXgb.out).1
    have HB:=Lib.hid hB
    clear hB hX hk
    obtain⟨p0,p1⟩:=cr2 _ pb HXpb.out
    simp only[gq] at p0 p1
    refine hKK.out _ _ (⟨p0,p1⟩) (fun hHeld=> ?_)
    clear hKK KK
    try simp only[nmC]
    refine tk 10 (h:= ?_)
    try simp only[nmC]
    refine rd1 11 fun KK hKK=> ?_
    go_simp
    obtain⟨wn,ob,eW,eA,hB,hle,hlob,hX,hlt,hk⟩:=named_alloc HB.out hle (.cells #[.slice none 0 0,.slice none 0 0] 27 (0,0))
    simp only[eW,eA]
    clear eW eA
    have HXob:=Lib.hid hX
    have hnpbob:=(hk _ _ HXpb.out).2
    have HXpb:=Lib.hid (hk _ _ HXpb.out).1
    have hnrbob:=(hk _ _ HXrb.out).2
    have HXrb:=Lib.hid (hk _ _ HXrb.out).1
    have hngbob:=(hk _ _ HXgb.out).2
    have HXgb:=Lib.hid (hk _ _ HXgb.out).1
    have hnfbob:=(hk _ _ HXfb.out).2
    have HXfb:=Lib.hid (hk _ _ HXfb.out).1
    have HB:=Lib.hid hB
    clear hB hX hk
    obtain⟨p0,p1⟩:=cr2 _ pb HXpb.out
    simp only[gq] at p0 p1
    refine hKK.out _ _ (⟨p0,p1⟩) (fun hHeld=> ?_)
    clear hKK KK
    try simp only[nmC]
    refine rd1 12 fun KK hKK=> ?_
    obtain⟨o0,o1⟩:=cr2 _ ob HXob.out
    have of0:=frozen_of_row _ ob 0 _ _ HXob.out
    have of1:=frozen_of_row _ ob 1 _ _ HXob.out
    simp only[gq] at o0 o1
    go_simp
    refine hKK.out _ _ (⟨set_other (set_other p0 hnpbob) hnpbob,set_other (set_other p1 hnpbob) hnpbob⟩) (fun hHeld=> ?_)
    clear hKK KK
    try simp only[nmC]
    refine wpAnyG_done (by kernel_rfl) ?_ _
    have hset:∀k,k≠ob→∀u v:Value,((wn.setCell ⟨ob,0,none⟩ u).setCell ⟨ob,1,none⟩ v).heap[k]? =wn.heap[k]? :=fun k hk u v=>(Below.heap_setCell _ _ _ _ hk).trans (Below.heap_setCell _ _ _ _ hk)
    try go_wp2_with fail
    go_meet
    exact⟨ob,gb,fb,cg,rfl,hcg,Lib.hid ((hset _ (by omega) _ _).trans HXgb.out),Lib.hid ((HB.out.setCell hlob _).setCell hlob _),Lib.hid ((hset _ (by omega) _ _).trans HXpb.out),Lib.hid ((hset _ (by omega) _ _).trans HXrb.out),Lib.hid (heap_setCell_same _ _ 1 _ _ _ (heap_setCell_same _ _ 0 _ _ _ HXob.out)),Lib.hid ((hset _ (by omega) _ _).trans HXfb.out),Lib.hid (by omega)⟩
   ·go_simp
    obtain⟨wn,ob,eW,eA,hB,hle,hlob,hX,hlt,hk⟩:=named_alloc HB.out hle (.cells #[.slice none 0 0,.slice none 0 0] 27 (0,0))
    simp only[eW,eA]
    clear eW eA
    have HXob:=Lib.hid hX
    have hnpbob:=(hk _ _ HXpb.out).2
    have HXpb:=Lib.hid (hk _ _ HXpb.out).1
    have hnrbob:=(hk _ _ HXrb.out).2
    have HXrb:=Lib.hid (hk _ _ HXrb.out).1
    have hngbob:=(hk _ _ HXgb.out).2
    have HXgb:=Lib.hid (hk _ _ HXgb.out).1
    have HB:=Lib.hid hB
    clear hB hX hk
    obtain⟨p0,p1⟩:=cr2 _ pb HXpb.out
    simp only[gq] at p0 p1
    refine hKK.out _ _ (⟨p0,p1⟩) (fun hHeld=> ?_)
    clear hKK KK
    try simp only[nmC]
    refine rd1 9 fun KK hKK=> ?_
    go_simp
    obtain⟨wn,fb,eW,eA,hB,hle,hlfb,hX,hlt,hk⟩:=named_alloc HB.out hle (.cells cf.toArray 33 (0,0))
    simp only[eW,eA]
    clear eW eA
    have HXfb:=Lib.hid hX
    have hnpbfb:=(hk _ _ HXpb.out).2
    have HXpb:=Lib.hid (hk _ _ HXpb.out).1
    have hnrbfb:=(hk _ _ HXrb.out).2
    have HXrb:=Lib.hid (hk _ _ HXrb.out).1
    have hngbfb:=(hk _ _ HXgb.out).2
    have HXgb:=Lib.hid (hk _ _ HXgb.out).1
    have hnobfb:=(hk _ _ HXob.out).2
    have HXob:=Lib.hid (hk _ _ HXob.out).1
    have HB:=Lib.hid hB
    clear hB hX hk
    obtain⟨p0,p1⟩:=cr2 _ pb HXpb.out
    simp only[gq] at p0 p1
    refine hKK.out _ _ (⟨p0,p1⟩) (fun hHeld=> ?_)
    clear hKK KK
    try simp only[nmC]
    refine tk 10 (h:= ?_)
    try simp only[nmC]
    refine rd1 12 fun KK hKK=> ?_
    obtain⟨o0,o1⟩:=cr2 _ ob HXob.out
    have of0:=frozen_of_row _ ob 0 _ _ HXob.out
    have of1:=frozen_of_row _ ob 1 _ _ HXob.out
    simp only[gq] at o0 o1
    go_simp
    refine hKK.out _ _ (⟨set_other (set_other p0 hnpbob) hnpbob,set_other (set_other p1 hnpbob) hnpbob⟩) (fun hHeld=> ?_)
    clear hKK KK
    try simp only[nmC]
    refine wpAnyG_done (by kernel_rfl) ?_ _
    have hset:∀k,k≠ob→∀u v:Value,((wn.setCell ⟨ob,0,none⟩ u).setCell ⟨ob,1,none⟩ v).heap[k]? =wn.heap[k]? :=fun k hk u v=>(Below.heap_setCell _ _ _ _ hk).trans (Below.heap_setCell _ _ _ _ hk)
    try go_wp2_with fail
    go_meet
    exact⟨ob,gb,fb,cg,rfl,hcg,Lib.hid ((hset _ (by omega) _ _).trans HXgb.out),Lib.hid ((HB.out.setCell hlob _).setCell hlob _),Lib.hid ((hset _ (by omega) _ _).trans HXpb.out),Lib.hid ((hset _ (by omega) _ _).trans HXrb.out),Lib.hid (heap_setCell_same _ _ 1 _ _ _ (heap_setCell_same _ _ 0 _ _ _ HXob.out)),Lib.hid ((hset _ (by omega) _ _).trans HXfb.out),Lib.hid (by omega)⟩
  ·go_simp
   obtain⟨wn,fb,eW,eA,hB,hle,hlfb,hX,hlt,hk⟩:=named_alloc HB.out hle (.cells cf.toArray 33 (0,0))
   simp only[eW,eA]
   clear eW eA
   have HXfb:=Lib.hid hX
   have hnpbfb:=(hk _ _ HXpb.out).2
   have HXpb:=Lib.hid (hk _ _ HXpb.out).1
   have hnrbfb:=(hk _ _ HXrb.out).2
   have HXrb:=Lib.hid (hk _ _ HXrb.out).1
   have HB:=Lib.hid hB
   clear hB hX hk
   obtain⟨p0,p1⟩:=cr2 _ pb HXpb.out
   simp only[gq] at p0 p1
   refine hKK.out _ _ (⟨p0,p1⟩) (fun hHeld=> ?_)
   clear hKK KK
   try simp only[nmC]
   refine rd2 4 11 (fun KK hKK=> ?_) fun KK hKK=> ?_
   ·go_simp
    obtain⟨wn,gb,eW,eA,hB,hle,hlgb,hX,hlt,hk⟩:=named_alloc HB.out hle (.cells cg.toArray 9 (0,0))
    simp only[eW,eA]
    clear eW eA
    have HXgb:=Lib.hid hX
    have hnpbgb:=(hk _ _ HXpb.out).2
    have HXpb:=Lib.hid (hk _ _ HXpb.out).1
    have hnrbgb:=(hk _ _ HXrb.out).2
    have HXrb:=Lib.hid (hk _ _ HXrb.out).1
    have hnfbgb:=(hk _ _ HXfb.out).2
    have HXfb:=Lib.hid (hk _ _ HXfb.out).1
    have HB:=Lib.hid hB
    clear hB hX hk
    obtain⟨p0,p1⟩:=cr2 _ pb HXpb.out
    simp only[gq] at p0 p1
    refine hKK.out _ _ (⟨p0,p1⟩) (fun hHeld=> ?_)
    clear hKK KK
    try simp only[nmC]
    refine tk 10 (h:= ?_)
    try simp only[nmC]
    refine rd1 11 fun KK hKK=> ?_
    go_simp
    obtain⟨wn,ob,eW,eA,hB,hle,hlob,hX,hlt,hk⟩:=named_alloc HB.out hle (.cells #[.slice none 0 0,.slice none 0 0] 27 (0,0))
    simp only[eW,eA]
    clear eW eA
    have HXob:=Lib.hid hX
    have hnpbob:=(hk _ _ HXpb.out).2
    have HXpb:=Lib.hid (hk _ _ HXpb.out).1
    have hnrbob:=(hk _ _ HXrb.out).2
    have HXrb:=Lib.hid (hk _ _ HXrb.out).1
    have hnfbob:=(hk _ _ HXfb.out).2
    have HXfb:=Lib.hid (hk _ _ HXfb.out).1
    have hngbob:=(hk _ _ HXgb.out).2
    have HXgb:=Lib.hid (hk _ _ HXgb.out).1
    have HB:=Lib.hid hB
    clear hB hX hk
    obtain⟨p0,p1⟩:=cr2 _ pb HXpb.out
    simp only[gq] at p0 p1
    refine hKK.out _ _ (⟨p0,p1⟩) (fun hHeld=> ?_)
    clear hKK KK
    try simp only[nmC]
    refine rd1 12 fun KK hKK=> ?_
    obtain⟨o0,o1⟩:=cr2 _ ob HXob.out
    have of0:=frozen_of_row _ ob 0 _ _ HXob.out
    have of1:=frozen_of_row _ ob 1 _ _ HXob.out
    simp only[gq] at o0 o1
    go_simp
    refine hKK.out _ _ (⟨set_other (set_other p0 hnpbob) hnpbob,set_other (set_other p1 hnpbob) hnpbob⟩) (fun hHeld=> ?_)
    clear hKK KK
    try simp only[nmC]
    refine wpAnyG_done (by kernel_rfl) ?_ _
    have hset:∀k,k≠ob→∀u v:Value,((wn.setCell ⟨ob,0,none⟩ u).setCell ⟨ob,1,none⟩ v).heap[k]? =wn.heap[k]? :=fun k hk u v=>(Below.heap_setCell _ _ _ _ hk).trans (Below.heap_setCell _ _ _ _ hk)
    try go_wp2_with fail
    go_meet
    exact⟨ob,gb,fb,cg,rfl,hcg,Lib.hid ((hset _ (by omega) _ _).trans HXgb.out),Lib.hid ((HB.out.setCell hlob _).setCell hlob _),Lib.hid ((hset _ (by omega) _ _).trans HXpb.out),Lib.hid ((hset _ (by omega) _ _).trans HXrb.out),Lib.hid (heap_setCell_same _ _ 1 _ _ _ (heap_setCell_same _ _ 0 _ _ _ HXob.out)),Lib.hid ((hset _ (by omega) _ _).trans HXfb.out),Lib.hid (by omega)⟩
   ·go_simp
    obtain⟨wn,ob,eW,eA,hB,hle,hlob,hX,hlt,hk⟩:=named_alloc HB.out hle (.cells #[.slice none 0 0,.slice none 0 0] 27 (0,0))
    simp only[eW,eA]
    clear eW eA
    have HXob:=Lib.hid hX
    have hnpbob:=(hk _ _ HXpb.out).2
    have HXpb:=Lib.hid (hk _ _ HXpb.out).1
    have hnrbob:=(hk _ _ HXrb.out).2
    have HXrb:=Lib.hid (hk _ _ HXrb.out).1
    have hnfbob:=(hk _ _ HXfb.out).2
    have HXfb:=Lib.hid (hk _ _ HXfb.out).1
    have HB:=Lib.hid hB
    clear hB hX hk
    obtain⟨p0,p1⟩:=cr2 _ pb HXpb.out
    simp only[gq] at p0 p1
    refine hKK.out _ _ (⟨p0,p1⟩) (fun hHeld=> ?_)
    clear hKK KK
    try simp only[nmC]
    refine rd1 4 fun KK hKK=> ?_
    go_simp
    obtain⟨wn,gb,eW,eA,hB,hle,hlgb,hX,hlt,hk⟩:=named_alloc HB.out hle (.cells cg.toArray 9 (0,0))
    simp only[eW,eA]
    clear eW eA
    have HXgb:=Lib.hid hX
    have hnpbgb:=(hk _ _ HXpb.out).2
    have HXpb:=Lib.hid (hk _ _ HXpb.out).1
    have hnrbgb:=(hk _ _ HXrb.out).2
    have HXrb:=Lib.hid (hk _ _ HXrb.out).1
    have hnfbgb:=(hk _ _ HXfb.out).2
    have HXfb:=Lib.hid (hk _ _ HXfb.out).1
    have hnobgb:=(hk _ _ HXob.out).2
    have HXob:=Lib.hid (hk _ _ HXob.out).1
    have HB:=Lib.hid hB
    clear hB hX hk
    obtain⟨p0,p1⟩:=cr2 _ pb HXpb.out
    simp only[gq] at p0 p1
    refine hKK.out _ _ (⟨p0,p1⟩) (fun hHeld=> ?_)
    clear hKK KK
    try simp only[nmC]
    refine tk 10 (h:= ?_)
    try simp only[nmC]
    refine rd1 12 fun KK hKK=> ?_
    obtain⟨o0,o1⟩:=cr2 _ ob HXob.out
    have of0:=frozen_of_row _ ob 0 _ _ HXob.out
    have of1:=frozen_of_row _ ob 1 _ _ HXob.out
    simp only[gq] at o0 o1
    go_simp
    refine hKK.out _ _ (⟨set_other (set_other p0 hnpbob) hnpbob,set_other (set_other p1 hnpbob) hnpbob⟩) (fun hHeld=> ?_)
    clear hKK KK
    try simp only[nmC]
    refine wpAnyG_done (by kernel_rfl) ?_ _
    have hset:∀k,k≠ob→∀u v:Value,((wn.setCell ⟨ob,0,none⟩ u).setCell ⟨ob,1,none⟩ v).heap[k]? =wn.heap[k]? :=fun k hk u v=>(Below.heap_setCell _ _ _ _ hk).trans (Below.heap_setCell _ _ _ _ hk)
    try go_wp2_with fail
    go_meet
    exact⟨ob,gb,fb,cg,rfl,hcg,Lib.hid ((hset _ (by omega) _ _).trans HXgb.out),Lib.hid ((HB.out.setCell hlob _).setCell hlob _),Lib.hid ((hset _ (by omega) _ _).trans HXpb.out),Lib.hid ((hset _ (by omega) _ _).trans HXrb.out),Lib.hid (heap_setCell_same _ _ 1 _ _ _ (heap_setCell_same _ _ 0 _ _ _ HXob.out)),Lib.hid ((hset _ (by omega) _ _).trans HXfb.out),Lib.hid (by omega)⟩
  ·go_simp
   obtain⟨wn,ob,eW,eA,hB,hle,hlob,hX,hlt,hk⟩:=named_alloc HB.out hle (.cells #[.slice none 0 0,.slice none 0 0] 27 (0,0))
   simp only[eW,eA]
   clear eW eA
   have HXob:=Lib.hid hX
   have hnpbob:=(hk _ _ HXpb.out).2
   have HXpb:=Lib.hid (hk _ _ HXpb.out).1
   have hnrbob:=(hk _ _ HXrb.out).2
   have HXrb:=Lib.hid (hk _ _ HXrb.out).1
   have HB:=Lib.hid hB
   clear hB hX hk
   obtain⟨p0,p1⟩:=cr2 _ pb HXpb.out
   simp only[gq] at p0 p1
   refine hKK.out _ _ (⟨p0,p1⟩) (fun hHeld=> ?_)
   clear hKK KK
   try simp only[nmC]
   refine rd2 4 9 (fun KK hKK=> ?_) fun KK hKK=> ?_
   ·go_simp
    obtain⟨wn,gb,eW,eA,hB,hle,hlgb,hX,hlt,hk⟩:=named_alloc HB.out hle (.cells cg.toArray 9 (0,0))
    simp only[eW,eA]
    clear eW eA
    have HXgb:=Lib.hid hX
    have hnpbgb:=(hk _ _ HXpb.out).2
    have HXpb:=Lib.hid (hk _ _ HXpb.out).1
    have hnrbgb:=(hk _ _ HXrb.out).2
    have HXrb:=Lib.hid (hk _ _ HXrb.out).1
    have hnobgb:=(hk _ _ HXob.out).2
    have HXob:=Lib.hid (hk _ _ HXob.out).1
    have HB:=Lib.hid hB
    clear hB hX hk
    obtain⟨p0,p1⟩:=cr2 _ pb HXpb.out
    simp only[gq] at p0 p1
    refine hKK.out _ _ (⟨p0,p1⟩) (fun hHeld=> ?_)
    clear hKK KK
    try simp only[nmC]
    refine rd1 9 fun KK hKK=> ?_
    go_simp
    obtain⟨wn,fb,eW,eA,hB,hle,hlfb,hX,hlt,hk⟩:=named_alloc HB.out hle (.cells cf.toArray 33 (0,0))
    simp only[eW,eA]
    clear eW eA
    have HXfb:=Lib.hid hX
    have hnpbfb:=(hk _ _ HXpb.out).2
    have HXpb:=Lib.hid (hk _ _ HXpb.out).1
    have hnrbfb:=(hk _ _ HXrb.out).2
    have HXrb:=Lib.hid (hk _ _ HXrb.out).1
    have hnobfb:=(hk _ _ HXob.out).2
    have HXob:=Lib.hid (hk _ _ HXob.out).1
    have hngbfb:=(hk _ _ HXgb.out).2
    have HXgb:=Lib.hid (hk _ _ HXgb.out).1
    have HB:=Lib.hid hB
    clear hB hX hk
    obtain⟨p0,p1⟩:=cr2 _ pb HXpb.out
    simp only[gq] at p0 p1
    refine hKK.out _ _ (⟨p0,p1⟩) (fun hHeld=> ?_)
    clear hKK KK
    try simp only[nmC]
    refine tk 10 (h:= ?_)
    try simp only[nmC]
    refine rd1 12 fun KK hKK=> ?_
    obtain⟨o0,o1⟩:=cr2 _ ob HXob.out
    have of0:=frozen_of_row _ ob 0 _ _ HXob.out
    have of1:=frozen_of_row _ ob 1 _ _ HXob.out
    simp only[gq] at o0 o1
    go_simp
    refine hKK.out _ _ (⟨set_other (set_other p0 hnpbob) hnpbob,set_other (set_other p1 hnpbob) hnpbob⟩) (fun hHeld=> ?_)
    clear hKK KK
    try simp only[nmC]
    refine wpAnyG_done (by kernel_rfl) ?_ _
    have hset:∀k,k≠ob→∀u v:Value,((wn.setCell ⟨ob,0,none⟩ u).setCell ⟨ob,1,none⟩ v).heap[k]? =wn.heap[k]? :=fun k hk u v=>(Below.heap_setCell _ _ _ _ hk).trans (Below.heap_setCell _ _ _ _ hk)
    try go_wp2_with fail
    go_meet
    exact⟨ob,gb,fb,cg,rfl,hcg,Lib.hid ((hset _ (by omega) _ _).trans HXgb.out),Lib.hid ((HB.out.setCell hlob _).setCell hlob _),Lib.hid ((hset _ (by omega) _ _).trans HXpb.out),Lib.hid ((hset _ (by omega) _ _).trans HXrb.out),Lib.hid (heap_setCell_same _ _ 1 _ _ _ (heap_setCell_same _ _ 0 _ _ _ HXob.out)),Lib.hid ((hset _ (by omega) _ _).trans HXfb.out),Lib.hid (by omega)⟩
   ·go_simp
    obtain⟨wn,fb,eW,eA,hB,hle,hlfb,hX,hlt,hk⟩:=named_alloc HB.out hle (.cells cf.toArray 33 (0,0))
    simp only[eW,eA]
    clear eW eA
    have HXfb:=Lib.hid hX
    have hnpbfb:=(hk _ _ HXpb.out).2
    have HXpb:=Lib.hid (hk _ _ HXpb.out).1
    have hnrbfb:=(hk _ _ HXrb.out).2
    have HXrb:=Lib.hid (hk _ _ HXrb.out).1
    have hnobfb:=(hk _ _ HXob.out).2
    have HXob:=Lib.hid (hk _ _ HXob.out).1
    have HB:=Lib.hid hB
    clear hB hX hk
    obtain⟨p0,p1⟩:=cr2 _ pb HXpb.out
    simp only[gq] at p0 p1
    refine hKK.out _ _ (⟨p0,p1⟩) (fun hHeld=> ?_)
    clear hKK KK
    try simp only[nmC]
    refine rd1 4 fun KK hKK=> ?_
    go_simp
    obtain⟨wn,gb,eW,eA,hB,hle,hlgb,hX,hlt,hk⟩:=named_alloc HB.out hle (.cells cg.toArray 9 (0,0))
    simp only[eW,eA]
    clear eW eA
    have HXgb:=Lib.hid hX
    have hnpbgb:=(hk _ _ HXpb.out).2
    have HXpb:=Lib.hid (hk _ _ HXpb.out).1
    have hnrbgb:=(hk _ _ HXrb.out).2
    have HXrb:=Lib.hid (hk _ _ HXrb.out).1
    have hnobgb:=(hk _ _ HXob.out).2
    have HXob:=Lib.hid (hk _ _ HXob.out).1
    have hnfbgb:=(hk _ _ HXfb.out).2
    have HXfb:=Lib.hid (hk _ _ HXfb.out).1
    have HB:=Lib.hid hB
    clear hB hX hk
    obtain⟨p0,p1⟩:=cr2 _ pb HXpb.out
    simp only[gq] at p0 p1
    refine hKK.out _ _ (⟨p0,p1⟩) (fun hHeld=> ?_)
    clear hKK KK
    try simp only[nmC]
    refine tk 10 (h:= ?_)
    try simp only[nmC]
    refine rd1 12 fun KK hKK=> ?_
    obtain⟨o0,o1⟩:=cr2 _ ob HXob.out
    have of0:=frozen_of_row _ ob 0 _ _ HXob.out
    have of1:=frozen_of_row _ ob 1 _ _ HXob.out
    simp only[gq] at o0 o1
    go_simp
    refine hKK.out _ _ (⟨set_other (set_other p0 hnpbob) hnpbob,set_other (set_other p1 hnpbob) hnpbob⟩) (fun hHeld=> ?_)
    clear hKK KK
    try simp only[nmC]
    refine wpAnyG_done (by kernel_rfl) ?_ _
    have hset:∀k,k≠ob→∀u v:Value,((wn.setCell ⟨ob,0,none⟩ u).setCell ⟨ob,1,none⟩ v).heap[k]? =wn.heap[k]? :=fun k hk u v=>(Below.heap_setCell _ _ _ _ hk).trans (Below.heap_setCell _ _ _ _ hk)
    try go_wp2_with fail
    go_meet
    exact⟨ob,gb,fb,cg,rfl,hcg,Lib.hid ((hset _ (by omega) _ _).trans HXgb.out),Lib.hid ((HB.out.setCell hlob _).setCell hlob _),Lib.hid ((hset _ (by omega) _ _).trans HXpb.out),Lib.hid ((hset _ (by omega) _ _).trans HXrb.out),Lib.hid (heap_setCell_same _ _ 1 _ _ _ (heap_setCell_same _ _ 0 _ _ _ HXob.out)),Lib.hid ((hset _ (by omega) _ _).trans HXfb.out),Lib.hid (by omega)⟩
 case rest=>
  obtain⟨ob,gb,fb,cs,rfl,hcs,HG,HB,HXpb,HXrb,HXob,HF,HD⟩:=hcut
  obtain⟨p0,p1⟩:=cr2 wc pb HXpb.out
  obtain⟨o0,o1⟩:=cr2 wc ob HXob.out
  simp only[gq] at p0 p1 o0 o1
  have hgl:(p.globals.map Value.string).length=m*1:=by rw[List.length_map,HP.out.gn,Nat.mul_one]
  have hsrc:p.globals.map Value.string≠ []→∃ad,ga=some ad∧∀j v,(p.globals.map Value.string)[j]? =some v→wc.cell? (ad.add j)=some v:=by
   intro hne
   obtain⟨g,o,rfl,hg,hc⟩:=HP.out.gr.at (List.length_pos_iff.2 hne)
   refine⟨_,rfl,fun j v hj=> ?_⟩
   rw[Addr.add_lit]
   exact(World.cell?_of_block (w:=w) (a:=⟨g,o+j,none⟩) (HB.out.block g (by omega))).trans (hc j v hj)
  obtain⟨w2,hcp,hg2,hon2⟩:=copy_facts 25 25 3 9 js Tryz.underlying25 hjs 1 hjs1 gb (m+2) (m+2) ga m gc cs 9 (p.globals.map Value.string) HG.out (by omega) hgl hsrc (by rw[hgl];omega) (by intro v hv;obtain⟨s,_,rfl⟩:=List.mem_map.1 hv;rfl)
  have hk2:∀k,k≠gb→w2.heap[k]? =wc.heap[k]? :=hon2.block
  have hD:=HD.out
  have hlt:∀k x,w2.heap[k]? =some x→k<w2.heap.size:=fun k x hx=>(Array.getElem?_eq_some_iff.1 hx).1
  have hx1:=(hk2 pb (by omega)).trans HXpb.out
  have hx2:=(hk2 rb (by omega)).trans HXrb.out
  have hx3:=(hk2 ob (by omega)).trans HXob.out
  have hx4:=(hk2 fb (by omega)).trans HF.out
  have hL:LtS w w2 p n m (.slice fa n fc) (.slice ga m gc) pb rb ob gb fb w2.heap.size 0 []:=by
   have l1:=hlt _ _ hx1
   have l2:=hlt _ _ hx2
   have l3:=hlt _ _ hx3
   have l4:=hlt _ _ hx4
   have l5:=hlt _ _ hg2
   refine⟨by rw[hpbe];exact hon2.below HB.out (by omega),by omega,hx1,hx2,hx3,⟨_, ?_, ?_,hg2⟩,⟨cf,hcf,by simp,hx4⟩,rfl,fun y hy=>(nomatch hy),Nat.le_refl _,by omega⟩
   ·rw[List.length_append,List.length_drop,hgl];omega
   ·rw[show m=(p.globals.map Value.string).length by rw[hgl,Nat.mul_one],List.take_left]
  have HL:=Lib.hid hL
  clear hL hx1 hx2 hx3 hx4 hlt hk2 hg2 hon2 hsrc hgl HG HB HXpb HXrb HXob HF
  have hd:=HL.out.d
  obtain⟨_,_,_,_,_,_,_,_,_,e1,e2,_,_,e3,e4,e5,_,_,_⟩:=hd
  go_wp2_with fail
  clear p0 p1 o0 o1
  go_loopw [4] (fun i wr=>∃j:Nat,i= .int .i64 j∧j≤2∧Hid (LtS w wr p n m (.slice fa n fc) (.slice ga m gc) pb rb ob gb fb w2.heap.size 0 [])∧Hid (MgAt wr gb fb n m j)) (fun i _=>2-(intOf i).toNat)
  case atStart=>exact⟨0,rfl,by omega,HL,Lib.hid fun i hi=>by omega⟩
  case round=>
   clear HL hcp
   obtain⟨j,rfl,hj,HL,HMG⟩:=hrel
   obtain⟨p0,p1⟩:=HL.out.pc
   obtain⟨o0,o1⟩:=HL.out.oc
   by_cases hlt:j<2
   ·obtain⟨⟨u1,k1⟩,k2⟩:=HL.out.gc (j:=m+j) (by omega)
    obtain⟨⟨u2,k3⟩,k4⟩:=HL.out.fc (j:=(n+j)*6) (by omega)
    obtain⟨cg9,g91,_,g93⟩:=HL.out.hgb
    obtain⟨cf9,f91,_,f93⟩:=HL.out.hfb
    have HMN:=Lib.hid (HMG.out.next (by have:=HL.out.d;omega) g93 f93 (by omega) (by omega))
    clear g91 g93 f91 f93 HMG
    go_wp2_with fail
    go_roundw
    case rel=>exact⟨j+1,by simp,by omega,Lib.hid ((HL.out.markG (by omega) _).markF _ _),HMN⟩
    case measure=>simp[intOf];omega
   ·obtain rfl:j=2:=by omega
    go_wp2_with fail
    clear p0 p1 o0 o1 hwm hwn hmg2 hmf2
    go_loopw [5] (fun i ws=>∃(k:Nat) (ys:List (Cf×Fv)),i= .int .i64 k∧k≤n∧Hid (LtS w ws p n m (.slice fa n fc) (.slice ga m gc) pb rb ob gb fb w2.heap.size k ys)∧Hid (MgAt ws gb fb n m 2)∧Hid (∀y∈ys,MkAt ws w2.heap.size y)) (fun i _=>n-(intOf i).toNat)
    case atStart=>exact⟨0,[],rfl,Nat.zero_le _,HL,HMG,Lib.hid fun y hy=>nomatch hy⟩
    case round=>
     clear HL HMG
     obtain⟨k,ys,rfl,hk,HL,HMG,HMK⟩:=hrel
     obtain⟨p0,p1⟩:=HL.out.pc
     by_cases hkn:k<n
     ·obtain⟨f,hf⟩:∃f,p.funcs[k]? =some f:=⟨_,List.getElem?_eq_getElem (by rw[HP.out.fn];exact hkn)⟩
      obtain⟨g,o,fv,rfl,hlx,x0,x1,x2,x3,x4,x5⟩:=HP.out.func hf
      have hlow:=HL.out.low
      have c0:=old_cell0 x0 hlow
      have c1:=old_cell0 x1 hlow
      have c2:=old_cell0 x2 hlow
      have c3:=old_cell0 x3 hlow
      have c4:=old_cell0 x4 hlow
      have c5:=old_cell0 x5 hlow
      have hfn:=partsN_mem (List.mem_of_getElem? hf)
      have hsm:=HSM.out
      obtain⟨tn,htn⟩:∃tn,f.taken.length=tn:=⟨_,rfl⟩
      obtain⟨cn,hcn⟩:∃cn,f.code.length=cn:=⟨_,rfl⟩
      rw[htn] at c3
      rw[hcn] at c5
      have ht9:tn≤90000:=by omega
      have hc9:cn≤90000:=by omega
      have HFK:=Lib.hid hf
      have HLX:=Lib.hid hlx
      have HTN:=Lib.hid htn
      have HCN:=Lib.hid hcn
      obtain⟨ct,hct,hmt⟩:=make_k Tryz.underlying22 hji hjz3 hji1 hji2 tn (by omega) (by omega)
      obtain⟨cc,hcc,hmc⟩:=make_k Tryz.underlying31 hjx hjz4 hjx1 hjx2 cn (by omega) (by omega)
      clear hf hlx x0 x1 x2 x3 x4 x5 htn hcn hsm hfn hlow
      go_upto_region 14 with fail
      obtain⟨W7,xb,tb,cb,eW,ex,et,ec,hX7,hT7,hC7,hB7⟩:=alloc3 wr (.cells #[.string f.name,.int .i64 f.params,.int .i64 f.slots,.slice fv.ta tn fv.tc,.int .i64 f.around,.slice fv.ca cn fv.cc] 33 (0,0)) (.cells ct.toArray 3 (0,0)) (.cells cc.toArray 36 (0,0))
      simp only[eW,ex,et,ec]
      have hw7:=HL.out.low.trans (hB7.mono HL.out.low.size)
      have htl:(f.taken.map (Value.int .i64)).length=tn*1:=by rw[List.length_map,HTN.out,Nat.mul_one]
      have hcl:(f.code.flatMap insCells).length=cn*5:=by rw[flat_len ins_len,HCN.out]
      obtain⟨w8,hcp1,ht8,ho8⟩:=copy_facts 22 22 3 3 ji Tryz.underlying22 hji 1 hji1 tb (tn+2) (tn+2) fv.ta tn fv.tc ct 3 (f.taken.map (Value.int .i64)) hT7 (by omega) htl (row_src HLX.out.1 hw7) (by omega) (by intro v hv;obtain⟨s,_,rfl⟩:=List.mem_map.1 hv;rfl)
      have hX8:=(ho8.block xb (by omega)).trans hX7
      have hC8:=(ho8.block cb (by omega)).trans hC7
      have hB8:=ho8.below hB7 (by omega)
      have hw8:=HL.out.low.trans (hB8.mono HL.out.low.size)
      obtain⟨w9,hcp2,hc9,ho9⟩:=copy_facts 31 31 3 36 jx Tryz.underlying31 hjx 5 hjx1 cb (cn+2) (cn+2) fv.ca cn fv.cc cc 36 (f.code.flatMap insCells) hC8 (by omega) hcl (row_src HLX.out.2.1 hw8) (by omega) (by intro v hv;obtain⟨s,_,hv⟩:=List.mem_flatMap.1 hv;simp[insCells] at hv;rcases hv with rfl|rfl|rfl|rfl|rfl<;>rfl)
      have a3:=cell_of_row W7 xb 3 _ _ _ hX7
      have a5:=cell_of_row w8 xb 5 _ _ _ hX8
      simp only[gq] at a3 a5
      have hI:ItS wr w9 f (.slice fv.ta tn fv.tc) (.slice fv.ca cn fv.cc) tn cn xb tb cb:=by
       refine⟨ho9.below hB8 (by omega),(ho9.block xb (by omega)).trans hX8,⟨_, ?_, ?_,(ho9.block tb (by omega)).trans ht8⟩,⟨_, ?_, ?_,hc9⟩,by omega⟩
       ·rw[List.length_append,List.length_drop,htl];omega
       ·rw[show tn=(f.taken.map (Value.int .i64)).length by rw[htl,Nat.mul_one],List.take_left]
       ·rw[List.length_append,List.length_drop,hcl];omega
       ·rw[←hcl,List.take_left]
      have HI:=Lib.hid hI
      clear hI hX7 hT7 hC7 hX8 hC8 ht8 ho8 hc9 ho9 hB8 hB7 hw7 hw8 eW htl hcl
      go_upto_region 15 with fail
      go_wp2_with fail
      clear a3 a5 hcp1 hcp2 c0 c1 c2 c3 c4 c5 p0 p1 hmt hmc
      go_loopw [9] (fun i wt=>∃j:Nat,i= .int .i64 j∧j≤2∧Hid (ItS wr wt f (.slice fv.ta tn fv.tc) (.slice fv.ca cn fv.cc) tn cn xb tb cb)∧Hid (MiAt wt tb cb tn cn j)) (fun i _=>2-(intOf i).toNat)
      case atStart=>exact⟨0,rfl,by omega,HI,Lib.hid fun i hi=>by omega⟩
      case round=>
       clear HI
       obtain⟨j,rfl,hj,HI,HMI⟩:=hrel
       obtain⟨a0,a1,a2,a3,a4,a5,b3,b5⟩:=HI.out.xc
       obtain⟨_,_,_,i1,i2,i3⟩:=HI.out.d
       by_cases hj2:j<2
       ·obtain⟨⟨u1,k1⟩,k2⟩:=HI.out.tc (j:=tn+j) (by omega)
        obtain⟨⟨u2,k3⟩,k4⟩:=HI.out.cc (j:=(cn+j)*5+3) (by omega)
        obtain⟨ct9,t91,_,t93⟩:=HI.out.ht
        obtain⟨cc9,c91,_,c93⟩:=HI.out.hc
        have HMN:=Lib.hid (HMI.out.next i3 t93 c93 (by omega) (by omega))
        clear t91 t93 c91 c93 HMI
        go_wp2_with fail
        go_roundw
        case rel=>exact⟨j+1,by simp,by omega,Lib.hid ((HI.out.markT (by omega) _).markC (by omega) _),HMN⟩
        case measure=>simp[intOf];omega
       ·obtain rfl:j=2:=by omega
        go_upto_region 23 with fail
        have hI2:=(HI.out.set3 (.slice (some ⟨tb,0,none⟩) tn (tn+2))).set5 (.slice (some ⟨cb,0,none⟩) cn (cn+2))
        obtain⟨W,hW⟩:∃W,(wr.setCell ⟨xb,3,none⟩ (.slice (some ⟨tb,0,none⟩) tn (tn+2))).setCell ⟨xb,5,none⟩ (.slice (some ⟨cb,0,none⟩) cn (cn+2))=W:=⟨_,rfl⟩
        have hMI2:=HMI.out.keep (W':=W) (by rw[←hW,Below.heap_setCell _ _ _ _ (Ne.symm i1),Below.heap_setCell _ _ _ _ (Ne.symm i1)]) (by rw[←hW,Below.heap_setCell _ _ _ _ (Ne.symm i2),Below.heap_setCell _ _ _ _ (Ne.symm i2)])
        simp only[hW] at hI2⊢
        clear hW a0 a1 a2 a3 a4 a5 b3 b5
        obtain⟨a0,a1,a2,a3,a4,a5,b3,b5⟩:=hI2.xc
        have hL2:=HL.out.under hI2.low
        have hfx:fb≠xb:=by
         have h1:=HL.out.d
         have h2:=HL.out.llo
         have h3:=hI2.d
         omega
        obtain⟨o0,o1⟩:=hL2.oc
        obtain⟨⟨z0,y0⟩,q0⟩:=hL2.fc (j:=k*6) (by omega)
        obtain⟨⟨z1,y1⟩,q1⟩:=hL2.fc (j:=k*6+1) (by omega)
        obtain⟨⟨z2,y2⟩,q2⟩:=hL2.fc (j:=k*6+2) (by omega)
        obtain⟨⟨z3,y3⟩,q3⟩:=hL2.fc (j:=k*6+3) (by omega)
        obtain⟨⟨z4,y4⟩,q4⟩:=hL2.fc (j:=k*6+4) (by omega)
        obtain⟨⟨z5,y5⟩,q5⟩:=hL2.fc (j:=k*6+5) (by omega)
        have hput:=hL2.put HFK.out hkn (hI2.hi HL.out.llo HTN.out HCN.out)
        rw[HTN.out,HCN.out] at hput
        have HPUT:=Lib.hid hput
        have hdd:=HL.out.d
        have hll:=HL.out.llo
        obtain⟨cf9,_,_,f93⟩:=hL2.hfb
        have HMG2:=Lib.hid ((HMG.out.keep (hI2.low.block gb (by omega)) (hI2.low.block fb (by omega))).six (by omega) f93 hkn (.string f.name) (.int .i64 f.params) (.int .i64 f.slots) (.slice (some ⟨tb,0,none⟩) tn (tn+2)) (.int .i64 f.around) (.slice (some ⟨cb,0,none⟩) cn (cn+2)))
        have hI9:=hI2.d
        have hT9:=(hI2.ht).choose_spec.2.2
        have hC9:=(hI2.hc).choose_spec.2.2
        have hT8:=(Array.getElem?_eq_some_iff.1 hT9).1
        have hC8:=(Array.getElem?_eq_some_iff.1 hC9).1
        have hMK2:∀y∈ys++ [(f,(⟨some ⟨tb,0,none⟩,tn+2,some ⟨cb,0,none⟩,cn+2⟩:Fv))],MkAt W w2.heap.size y:=fun y hy=>by
         rcases List.mem_append.1 hy with hy|hy
         ·exact(HMK.out y hy).keep hI2.low.size fun b _ hb=>hI2.low.block b hb
         ·rw[List.mem_singleton.1 hy]
          exact⟨tb,cb,rfl,rfl,by show f.taken.length+2≤tn+2;rw[HTN.out];omega,by show f.code.length+2≤cn+2;rw[HCN.out];omega,by omega,hT8,by omega,hC8,by rw[HTN.out,HCN.out];exact hMI2⟩
        have HMK2:Hid (∀y∈ys++ [(f,(⟨some ⟨tb,0,none⟩,tn+2,some ⟨cb,0,none⟩,cn+2⟩:Fv))],MkAt ((((((W.setCell ⟨fb,k*6,none⟩ (.string f.name)).setCell ⟨fb,k*6+1,none⟩ (.int .i64 f.params)).setCell ⟨fb,k*6+2,none⟩ (.int .i64 f.slots)).setCell ⟨fb,k*6+3,none⟩ (.slice (some ⟨tb,0,none⟩) tn (tn+2))).setCell ⟨fb,k*6+4,none⟩ (.int .i64 f.around)).setCell ⟨fb,k*6+5,none⟩ (.slice (some ⟨cb,0,none⟩) cn (cn+2))) w2.heap.size y):=Lib.hid fun y hy=>(hMK2 y hy).keep (by simp) fun b hb _=>by
         have hbf:b≠fb:=by omega
         rw[Below.heap_setCell _ _ _ _ hbf,Below.heap_setCell _ _ _ _ hbf,Below.heap_setCell _ _ _ _ hbf,Below.heap_setCell _ _ _ _ hbf,Below.heap_setCell _ _ _ _ hbf,Below.heap_setCell _ _ _ _ hbf]
        clear hdd hll f93 hI9 hT9 hC9 hT8 hC8 hMK2 hMI2
        clear hput hI2 hL2
        go_wp2_with fail
        go_roundw
        case rel=>exact⟨k+1,_,by simp,by omega,HPUT,HMG2,HMK2⟩
        case measure=>simp[intOf];omega
     ·obtain rfl:k=n:=by omega
      obtain⟨o0,o1⟩:=HL.out.oc
      have of0:=frozen_of_row wr ob 0 _ _ HL.out.hob
      have of1:=frozen_of_row wr ob 1 _ _ HL.out.hob
      obtain⟨r0,r1⟩:=cr2 wr rb HL.out.hrb
      have rf0:=frozen_of_row wr rb 0 _ _ HL.out.hrb
      have rf1:=frozen_of_row wr rb 1 _ _ HL.out.hrb
      simp only[gq] at r0 r1
      obtain⟨d1,d2,d3,d4,_,_,_,_,_,_,_,_,_,_,_,_,n1,n2,n3⟩:=HL.out.d
      have n4:=n2.symm
      have n5:=n3.symm
      go_wp2_with fail
      have hset:∀i,i≠ob→i≠rb→∀a b c e:Value,((((wr.setCell ⟨ob,1,none⟩ a).setCell ⟨ob,0,none⟩ b).setCell ⟨rb,0,none⟩ c).setCell ⟨rb,1,none⟩ e).heap[i]? =wr.heap[i]? :=by
       intro i hi hj a b c e
       rw[Below.heap_setCell _ _ _ _ hj,Below.heap_setCell _ _ _ _ hj,Below.heap_setCell _ _ _ _ hi,Below.heap_setCell _ _ _ _ hi]
      refine bodyPost_ret (lent_result _ _ rb (.slice (some ⟨fb,0,none⟩) k (k+2)) (.slice (some ⟨gb,0,none⟩) m (m+2)) rfl ?_ ?_) rfl ⟨_,_,fb,gb,ys,rfl,LtS.finalP HL.out HP.out.fn HP.out.gn (by simp) (fun i hi hj=>hset i hi hj _ _ _ _),HMG.out.keep (hset _ (by omega) (by omega) _ _ _ _) (hset _ (by omega) (by omega) _ _ _ _),fun y hy=>((HMK.out y hy).keep (W':=_) (by simp) fun b hb _=>hset b (by have:=HL.out.d;omega) (by have:=HL.out.d;omega) _ _ _ _).weak (by have:=HL.out.d;omega),d2,d1,(((HL.out.low.setCell d4 _).setCell d4 _).setCell d3 _).setCell d3 _⟩
      iterate 2 (·first|(simp[r0,r1];done)|(go_simp;done))
theorem codes_code {p:Cp} {c:Cwr}:∀(l:List Cf) (k:Nat),codesFrom p k l=some c→c.code=130
 | [],k,h=>by cases h
 |o::r,k,h=>by
  rw[codes_body] at h
  cases hb:bodyC p k o with
  |some d=>rw[hb] at h;obtain rfl:=Option.some.inj h;exact body_code hb
  |none=>rw[hb] at h;exact codes_code r (k+1) h
theorem fits_code {c:Cwr}:∀(l:List Cf) (k:Nat),fitsFrom k l=some c→c.code=130
 | [],k,h=>by cases h
 |o::r,k,h=>by
  rw[fits_one] at h
  cases hb:fitC k (fitsP o.code) with
  |some d=>rw[hb] at h;obtain rfl:=Option.some.inj h;exact fit_code hb
  |none=>rw[hb] at h;exact fits_code r (k+1) h
theorem right_code {p:Cp} {c:Cwr} (h:rightC p=some c):c.code≠0:=by
 have hc:c.code=22∨c.code=130:=by
  unfold rightC at h
  split at h
  ·obtain rfl:=Option.some.inj h;exact .inl rfl
  ·split at h
   ·obtain rfl:=Option.some.inj h;exact .inl rfl
   ·split at h
    ·obtain rfl:=Option.some.inj h;exact .inr rfl
    ·split at h
     ·obtain rfl:=Option.some.inj h;exact .inr rfl
     ·split at h
      ·next d hd=>obtain rfl:=Option.some.inj h;exact .inr (codes_code _ _ hd)
      ·exact .inr (fits_code _ _ h)
 omega
def ErAt (w w':World) (o:Option Cwr) (v:Value):Prop:=match o with
 |none=>v= .nilIface
 |some c=>∃b,v= .iface 42 (.pointer (some ⟨b,0,none⟩))∧w.heap.size≤b∧WrAt w' b c.code c.at_ c.ins
theorem RightPost.err {w w':World} {o:Option Cwr} {e:Ending} (h:RightPost w o e w'):∃v,e= .returned v∧ErAt w w' o v∧Below w.heap.size w w':=by
 obtain⟨hb,h⟩:=h
 cases o with
 |none=>exact⟨_,h,rfl,hb⟩
 |some c=>obtain⟨b,he,h1,h2⟩:=h;exact⟨_,he,⟨b,rfl,h1,h2⟩,hb⟩
theorem ErAt.up {w w' W:World} {o:Option Cwr} {v:Value} (h:ErAt w w' o v) (hb:Below w'.heap.size w' W):ErAt w W o v:=by
 cases o with
 |none=>exact h
 |some c=>
  obtain⟨b,he,h1,h2⟩:=h
  exact⟨b,he,h1,(hb.block b (Array.getElem?_eq_some_iff.1 h2).1).trans h2⟩
theorem told_err {w w':World} {o:Option Cwr} {v:Value} (h:ErAt w w' o v) (hc:∀c,o=some c→c.code≠0):
  Calls Tryz.prog 17 #[v,.agg #[.int .i64 (wA o),.int .i64 (wB o),.string (wC o)]] w' fun e w2=>e= .returned (.bool true)∧Below w'.heap.size w' w2:=by
 cases o with
 |none=>
  obtain rfl:v= .nilIface:=h
  exact told_right 0 ⟨#[]⟩
 |some c=>
  obtain⟨b,rfl,_,h2⟩:=h
  have:=told_wrong h2 c.code c.at_ (insName c.ins) (hc c rfl)
  simp only[beq_self_eq_true,decide_true,Bool.and_self] at this
  exact this
theorem fresh_err {w w' W:World} {o:Option Cwr} {v v':Value} (h:ErAt w w' o v) (h':ErAt w' W o v') (hb:Below w'.heap.size w' W):
  Calls Tryz.prog 18 #[v,v'] W fun e w2=>e= .returned (.bool true)∧Below W.heap.size W w2:=by
 cases o with
 |none=>
  obtain rfl:v= .nilIface:=h
  obtain rfl:v'= .nilIface:=h'
  exact fresh_none
 |some c=>
  obtain⟨b',rfl,h3,h4⟩:=h'
  have hu:=h.up hb
  obtain⟨b,rfl,h1,h2⟩:=h
  have hlt:=(Array.getElem?_eq_some_iff.1 h2).1
  refine fresh_some (by omega) ((hb.block b hlt).trans h2) h4
end Go.Proofs.YtagnicbknbmccaaGreatDoor
