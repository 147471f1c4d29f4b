/- code.Read of any text. CodeAny: any bytes, any text (the walk). guiselaw13.known by the contracts at any program. -/
import Derived.Test.YtagnicbknbmccaaGreatDoorMCwF
import Derived.Test.YtagnicbknbmccaaGreatDoorSqC
import Derived.Test.YtagnicbknbmccaaGreatDoorMMkF
import Derived.Test.YtagnicbknbmccaaGreatDoorDeB
import Derived.Test.YtagnicbknbmccaaGreatDoorAsC
import Derived.Test.YtagnicbknbmccaaGreatDoorEnB
import Derived.Test.YtagnicbknbmccaaGreatDoorLiB
import Derived.Test.YtagnicbknbmccaaGreatDoorMMkD
set_option maxRecDepth 100000
set_option maxHeartbeats 16000000
namespace Go.Proofs.YtagnicbknbmccaaGreatDoor
open Go.RowKit
def outR (s:List UInt8):Option Cwr:=match (readL s).2 with
 |some i=>some ⟨130,i,none⟩
 |none=>match rightC (readL s).1 with
  |some c=>some ⟨c.code,0,none⟩
  |none=>none
def ReaPost (w:World) (R:Option Cwr) (p:Cp) (e:Ending) (w':World):Prop:=Below w.heap.size w w'∧match R with
 |some c=>∃b,e= .returned (ErrV b)∧w.heap.size≤b∧WrAt w' b c.code c.at_ c.ins
 |none=>∃n m fa fc ga gc xs,e= .returned (.tuple #[.agg #[.slice fa n fc,.slice ga m gc],.nilIface])∧n≤fc∧m≤gc∧PgAt w' p n m fa ga xs
theorem readE_result (tmps:Array Value) (W:World) (g:Nat) (v0 v1 v3:Value) (h2:tmps.getD 2 undef= .pointer (some ⟨g,0,none⟩)) (h3:tmps.getD 3 undef=v3) (e0:W.cell? ⟨g,0,none⟩=some v0) (e1:W.cell? ⟨g,1,none⟩=some v1):
  (results Tryz.f28 tmps).run Tryz.prog W= .ok (.tuple #[.agg #[v0,v1],v3]) W:=by
 have h2':tmps[2]?.getD undef= .pointer (some ⟨g,0,none⟩):=by simpa using h2
 have h3':tmps[3]?.getD undef=v3:=by simpa using h3
 have hres:Tryz.f28.results= #[ResultVar.cell 2 27,ResultVar.tmp 3]:=rfl
 simp[results,go_sem,h2',h3',e0,e1]
theorem rea_err {w W W':World} {c a:Int} {i:Option Int} {b:Nat} (hW:Below w.heap.size w W) (hrow:W.heap[w.heap.size]? =some (.cells #[.slice none 0 0,.slice none 0 0] 27 (0,0))) (h1:Below W.heap.size W W') (hl:W.heap.size≤b) (hw:WrAt W' b c a i) {p:Cp}:
  W'.cell? ⟨w.heap.size,0,none⟩=some (.slice none 0 0)∧W'.cell? ⟨w.heap.size,1,none⟩=some (.slice none 0 0)∧W'.frozen? ⟨w.heap.size,0,none⟩=false∧W'.frozen? ⟨w.heap.size,1,none⟩=false∧
  ∀v0 v1:Value,ReaPost w (some ⟨c,a,i⟩) p (.returned (ErrV b)) ((W'.setCell ⟨w.heap.size,0,none⟩ v0).setCell ⟨w.heap.size,1,none⟩ v1):=by
 obtain⟨h1,h2,h3,h4,h5⟩:=dec_err (p:=p) hW hrow h1 hl hw
 exact⟨h1,h2,h3,h4,fun v0 v1=>h5 v0 v1⟩
theorem rea_endB {w W:World} {c:Int} (hW:Below w.heap.size w W) (_hrow:W.heap[w.heap.size]? =some (.cells #[.slice none 0 0,.slice none 0 0] 27 (0,0))) {p:Cp} (v0 v1:Value):
  ReaPost w (some ⟨c,0,none⟩) p (.returned (ErrV W.heap.size)) (((W.setCell ⟨w.heap.size,0,none⟩ v0).setCell ⟨w.heap.size,1,none⟩ v1).alloc (.cells #[.int .i64 c,.int .i64 0,.string ⟨#[]⟩] 46 (0,0))):=by
 have hs:((W.setCell ⟨w.heap.size,0,none⟩ v0).setCell ⟨w.heap.size,1,none⟩ v1).heap.size=W.heap.size:=by simp only[World.size_setCell]
 refine⟨((hW.setCell (Nat.le_refl _) _).setCell (Nat.le_refl _) _).alloc (by rw[hs];exact hW.size) _,W.heap.size,rfl,hW.size, ?_⟩
 have:=heap_alloc_new ((W.setCell ⟨w.heap.size,0,none⟩ v0).setCell ⟨w.heap.size,1,none⟩ v1) (.cells #[.int .i64 c,.int .i64 0,.string ⟨#[]⟩] 46 (0,0))
 rw[hs] at this
 exact this
theorem RdG.keep2 {lo:Nat} {W0 W W':World} {pb m gc:Nat} {vf:Value} {ga:Option Addr} {xs:List (Cf×Fv)} {gs:List ByteArray} (h:RdG lo W0 W pb vf ga m gc xs gs) (hs:W.heap.size≤W'.heap.size) (hk:∀g,lo≤g→g<W.heap.size→W'.heap[g]? =W.heap[g]?):RdG lo W' W' pb vf ga m gc xs gs:=
 ⟨Below.refl _ _,(hk pb h.lp h.plt).trans h.box,h.lp,own_keep h.fns fun g hg=>hk g (h.fns.lt g hg).1 (h.fns.lt g hg).2,fun x hx=>own_keep (h.codes x hx) fun g hg=>hk g ((h.codes x hx).lt g hg).1 ((h.codes x hx).lt g hg).2,fun x hx=>⟨(h.takes x hx).1.at_ (fun g o h0 hA=>hk g (h.t1 x hx g ⟨nonempty_map h0,o,hA⟩).2 (h.tlt hx ⟨nonempty_map h0,o,hA⟩)) hs,(h.takes x hx).2⟩,h.gn,h.gcap,h.globs.at_ (fun g o h0 hA=>hk g (h.g1 g ⟨nonempty_map h0,o,hA⟩).2 (h.glt ⟨nonempty_map h0,o,hA⟩)) hs,h.v1,h.k1,h.k2,h.t1,h.g1⟩
def RdJ (s:List UInt8) (lo:Nat) (W0:World) (k:Nat) (t:List UInt8) (W:World):Prop:=∃f p,readL s=linesL (f+1) t k p∧t.length≤f∧PLike 2000000 k p∧RdI lo W0 lo k p W
theorem readL_ne {s:List UInt8} (h:s≠ []):readL s=linesL (s.length+1) s 0 ⟨[],[]⟩:=by unfold readL;rw[if_neg h]
theorem linesL_cons {f k:Nat} {t:List UInt8} {p:Cp} (h:t≠ []):linesL (f+1) t k p=match cutAt 10 t with
  |(_,none)=>(p,some (k+1))
  |(x,some r)=>match lineL p k x with
   |none=>(p,some (k+1))
   |some q=>linesL f r (k+1) q:=by
 rw[linesL,if_neg h]
 rcases cutAt 10 t with⟨x,_|r⟩<;>rfl
theorem read_any {s:List UInt8} (hbl:s.length≤2000000) {w:World} (hG:Gc w) (hE:Ge w):Calls Tryz.prog 28 #[.string ⟨⟨s⟩⟩] w (ReaPost w (outR s) (readL s).1):=by
 have HG:=Lib.hid hG
 have HE:=Lib.hid hE
 obtain⟨R,HR⟩:∃R,Hid (outR s=R):=⟨_,rfl⟩
 obtain⟨P,HPP⟩:∃P,Hid ((readL s).1=P):=⟨_,rfl⟩
 rw[HR.out,HPP.out]
 clear hG hE
 have hb0:=heap_alloc_new w (.cells #[.slice none 0 0,.slice none 0 0] 27 (0,0))
 have hL0:Below w.heap.size w (w.alloc (.cells #[.slice none 0 0,.slice none 0 0] 27 (0,0))):=(Below.refl _ _).alloc (Nat.le_refl _) _
 obtain⟨W0,hW0⟩:∃W0,w.alloc (.cells #[.slice none 0 0,.slice none 0 0] 27 (0,0))=W0:=⟨_,rfl⟩
 have hsz:W0.heap.size=w.heap.size+1:=by rw[←hW0,World.size_alloc]
 rw[hW0] at hb0 hL0
 have HB0:=Lib.hid hb0
 have HL0:=Lib.hid hL0
 have HB1:=Lib.hid (heap_alloc_new W0 (.cells #[.slice none 0 0,.slice none 0 0] 27 (0,0)))
 have HL1:Hid (Below W0.heap.size W0 (W0.alloc (.cells #[.slice none 0 0,.slice none 0 0] 27 (0,0)))):=Lib.hid ((Below.refl _ _).alloc (Nat.le_refl _) _)
 clear hb0 hL0
 by_cases hs0:s=[]
 ·subst hs0
  have hR:R=some ⟨130,1,none⟩:=HR.out.symm
  subst hR
  have HB2:Hid (Below w.heap.size w (W0.alloc (.cells #[.slice none 0 0,.slice none 0 0] 27 (0,0)))∧(W0.alloc (.cells #[.slice none 0 0,.slice none 0 0] 27 (0,0))).heap[w.heap.size]? =some (.cells #[.slice none 0 0,.slice none 0 0] 27 (0,0))):=Lib.hid ⟨HL0.out.trans (HL1.out.mono HL0.out.size),(HL1.out.block _ (by omega)).trans HB0.out⟩
  go_enter Tryz.func28,Tryz.ntmps28
  go_upto_region 2 with fail
  obtain⟨W1,hW1⟩:∃W1,W0.alloc (.cells #[.slice none 0 0,.slice none 0 0] 27 (0,0))=W1:=⟨_,rfl⟩
  simp only[hW1] at HB2⊢
  clear hW0 hW1 HB0 HL0 HB1 HL1 hsz
  go_wp2_with (go_at_call 35;refine(wrong_none 130 1 _).mono ?_;intro e w3 hpost;obtain⟨b3,rfl,hb3,hl3,hw3⟩:=WrongPost.out hpost;clear hpost;obtain⟨c0,c1,f0,f1,hfin⟩:=rea_err (p:=P) HB2.out.1 HB2.out.2 hb3 hl3 hw3;have HFIN:=Lib.hid hfin;clear hfin hb3 hl3 hw3)
  refine bodyPost_ret (readE_result _ _ w.heap.size (.slice none 0 0) (.slice none 0 0) _ rfl rfl ?_ ?_) rfl (HFIN.out _ _)
  iterate 2 (·first|(simp[c0,c1];done)|(go_simp;done))
 have e0:s.isEmpty=false:=by simpa using hs0
 obtain⟨lo,hlo⟩:∃lo,w.heap.size+1=lo:=⟨_,rfl⟩
 rw[hlo] at hsz
 have HS0:Hid (RdJ s lo W0 0 s (W0.alloc (.cells #[.slice none 0 0,.slice none 0 0] 27 (0,0)))):=Lib.hid
  ⟨s.length,⟨[],[]⟩,readL_ne hs0,Nat.le_refl _,⟨Nat.zero_le _,Nat.zero_le _,fun f hf=>(by cases hf),fun x hx=>(by cases hx)⟩,.slice none 0 0,none,0,0,[],[],
   ⟨by rw[←hsz];exact HL1.out,by rw[←hsz];exact HB1.out,Nat.le_refl _,World.ownsRow_nil _ _ _ _,fun x hx=>(by cases hx),fun x hx=>(by cases hx),rfl,Nat.le_refl _,.inl rfl,fun g hg=>by simp[Value.ownBlock] at hg,fun x hx=>(by cases hx),List.Pairwise.nil,fun x hx=>(by cases hx),fun g hg=>by
    obtain⟨h,_⟩:=hg
    exact absurd rfl h⟩,rfl,fun _=>⟨rfl,rfl,rfl⟩⟩
 have HUP:Hid (∀V,Below lo W0 V→Below w.heap.size w V∧V.heap[w.heap.size]? =some (.cells #[.slice none 0 0,.slice none 0 0] 27 (0,0))):=Lib.hid fun V hl=>
  ⟨HL0.out.trans (hl.mono (by omega)),(hl.block _ (by omega)).trans HB0.out⟩
 obtain⟨n,hn⟩:∃n,s.length=n:=⟨_,rfl⟩
 rw[hn] at hbl
 have HN:=Lib.hid hn
 clear HB0 HL0 HB1 HL1 hn hs0
 go_enter Tryz.func28,Tryz.ntmps28
 go_upto_region 5 with fail
 obtain⟨W1,hW1⟩:∃W1,W0.alloc (.cells #[.slice none 0 0,.slice none 0 0] 27 (0,0))=W1:=⟨_,rfl⟩
 simp only[hW1] at HS0⊢
 clear hW1 hW0 e0
 go_loopw [0,5] (fun st i wr=>∃(k:Nat) (t:List UInt8) (d:Nat),st= .string ⟨⟨t⟩⟩∧i= .int .i64 k∧Hid (t.length=d)∧k+d≤n∧Hid (RdJ s lo W0 k t wr)) (fun _ i _=>n-(intOf i).toNat)
 case atStart=>exact⟨0,s,n,rfl,rfl,HN,by omega,HS0⟩
 case round=>
  clear HS0
  obtain⟨k,t,d,rfl,rfl,HD,hkd,HS⟩:=hrel
  by_cases ht0:t=[]
  ·subst ht0
   obtain⟨f,p,hrd,hfl,hpl,vf,ga,m,gc,xs,gs,hS,hp,_⟩:=HS.out
   have hrd2:readL s=(p,none):=by rw[hrd,linesL,if_pos rfl]
   have hPP:P=p:=by rw[←HPP.out,hrd2]
   have hR:R=match rightC p with|some c=>some ⟨c.code,0,none⟩|none=>none:=by rw[←HR.out];unfold outR;rw[hrd2]
   have HRE:=Lib.hid hR
   have htm:Tame p:=PLike.tame ⟨by have:=hpl.nf;omega,hpl.ng,fun f hf=>(hpl.fs f hf).more (by omega),hpl.gs⟩
   obtain⟨nf,fa,fc,rfl,hcap,hpg⟩:=hS.pg hp
   have hub:=HUP.out wr hS.low
   have HRT:=Lib.hid (right_all hpg hcap hS.gcap htm (HG.out.up hub.1))
   obtain⟨p0,p1⟩:=cr2 wr lo hS.box
   simp only[gq] at p0 p1
   have HSF:=Lib.hid hS
   have HP:=Lib.hid hp
   subst hPP
   have HUB:=Lib.hid hub
   clear hS hub HUP HS hrd hrd2 hfl hpl hR htm hpg hcap HD hkd HPP HR HN hp
   cases hrc:rightC P with
   |some c=>
    rw[hrc] at HRT HRE
    have hR:R=some ⟨c.code,0,none⟩:=HRE.out
    subst hR
    clear hrc HRE
    obtain⟨c1,c2,c3⟩:=c
    go_upto_region 13 with(go_at_call 11;refine HRT.out.mono ?_;rintro e w5 ⟨hb5,b5,rfl,hl5,hw5⟩)
    have hB5:=HUB.out.1.trans (hb5.mono HUB.out.1.size)
    have hr5:=(hb5.block w.heap.size (Array.getElem?_eq_some_iff.1 HUB.out.2).1).trans HUB.out.2
    have HW5:=Lib.hid (show w5.heap[b5]? =some (.cells #[.int .i64 c1,.int .i64 c2,.string (insName c3)] 46 (0,0)) from hw5)
    have HB5:=Lib.hid hB5
    have HR5:=Lib.hid hr5
    have hlt5:w.heap.size<w5.heap.size:=(Array.getElem?_eq_some_iff.1 hr5).1
    have hbl5:b5<w5.heap.size:=(Array.getElem?_eq_some_iff.1 hw5).1
    have hne5:b5≠w.heap.size:=by have:=HUB.out.1.size;have:=(Array.getElem?_eq_some_iff.1 HUB.out.2).1;omega
    clear p0 p1 hb5 hl5 hw5 HRT HUB HSF HP hB5 hr5
    have ht6:=heap_alloc_new w5 (.cells #[.pointer none] 42 (0,0))
    have HL6:Hid (Below w.heap.size w (w5.alloc (.cells #[.pointer none] 42 (0,0)))∧Below w5.heap.size w5 (w5.alloc (.cells #[.pointer none] 42 (0,0)))):=Lib.hid ⟨HB5.out.alloc HB5.out.size _,(Below.refl _ _).alloc (Nat.le_refl _) _⟩
    have hz6:(w5.alloc (.cells #[.pointer none] 42 (0,0))).heap.size=w5.heap.size+1:=World.size_alloc _ _
    go_upto_region 14 with fail
    obtain⟨T,hT⟩:∃T,w5.heap.size=T:=⟨_,rfl⟩
    obtain⟨W6,hW6⟩:∃W6,w5.alloc (.cells #[.pointer none] 42 (0,0))=W6:=⟨_,rfl⟩
    simp only[hW6,hT] at ht6 HL6 hlt5 hbl5 hz6⊢
    have hr6:=(HL6.out.2.block w.heap.size (by omega)).trans HR5.out
    have hw6:=(HL6.out.2.block b5 (by omega)).trans HW5.out
    have HAS:=Lib.hid (as_wrong (HE.out.up HL6.out.1) ⟨b5,0,none⟩ ht6)
    have HR6:=Lib.hid hr6
    have HW6:=Lib.hid hw6
    clear hr6 hw6 ht6 HR5 HW5 hW6 hT HB5
    go_upto_region 15 with(go_at_call 67;refine HAS.out.mono ?_;rintro e w7 ⟨rfl,hc7,hf7⟩)
    have HB7:Hid (Below w.heap.size w w7):=Lib.hid (HL6.out.1.trans ⟨hf7.os,hf7.tape,hf7.output,hf7.size,fun g hg=>hf7.block g (by omega) (by omega)⟩)
    have hr7:=(hf7.block w.heap.size (by omega) (by omega)).trans HR6.out
    have hw7:=(hf7.block b5 (by omega) (by omega)).trans HW6.out
    have hz7:=hf7.size
    clear HAS HL6 HR6 HW6 hf7
    obtain⟨c0,c1x⟩:=cr2 w7.drew w.heap.size (show w7.drew.heap[w.heap.size]? =_ from hr7)
    have f0:=frozen_of_row w7.drew w.heap.size 0 _ _ (show w7.drew.heap[w.heap.size]? =_ from hr7)
    have f1:=frozen_of_row w7.drew w.heap.size 1 _ _ (show w7.drew.heap[w.heap.size]? =_ from hr7)
    have d0:w7.drew.cell? ⟨T,0,none⟩=some (.pointer (some ⟨b5,0,none⟩)):=hc7
    have d1:=cell_of_row w7.drew b5 0 _ _ _ (show w7.drew.heap[b5]? =_ from hw7)
    simp only[gq] at c0 c1x d1
    have hl8:w.heap.size<w7.drew.heap.size:=(Array.getElem?_eq_some_iff.1 hr7).1
    have hb8:b5<w7.drew.heap.size:=(Array.getElem?_eq_some_iff.1 hw7).1
    have hT8:T<w7.drew.heap.size:=by show T<w7.heap.size;omega
    have HB8:Below w.heap.size w w7.drew:=⟨HB7.out.os,HB7.out.tape,HB7.out.output,HB7.out.size,HB7.out.block⟩
    have HEB:=Lib.hid (rea_endB (p:=P) (c:=c1) HB8 hr7)
    have hTn:T≠w.heap.size:=by omega
    have HK0:Hid (∀(V:World),(∀g,g<w7.drew.heap.size→g≠w.heap.size→V.heap[g]? =w7.drew.heap[g]?)→V.cell? ⟨T,0,none⟩=some (.pointer (some ⟨b5,0,none⟩))∧V.cell? ⟨b5,0,none⟩=some (.int .i64 c1)):=Lib.hid fun V hV=>⟨(World.cell?_of_block (a:=⟨T,0,none⟩) (hV T hT8 hTn)).trans d0,(World.cell?_of_block (a:=⟨b5,0,none⟩) (hV b5 hb8 hne5)).trans d1⟩
    have HQ2:Hid (∀v0 v1,((w7.drew.setCell ⟨w.heap.size,0,none⟩ v0).setCell ⟨w.heap.size,1,none⟩ v1).cell? ⟨T,0,none⟩=some (.pointer (some ⟨b5,0,none⟩))∧((w7.drew.setCell ⟨w.heap.size,0,none⟩ v0).setCell ⟨w.heap.size,1,none⟩ v1).cell? ⟨b5,0,none⟩=some (.int .i64 c1)):=Lib.hid fun v0 v1=>HK0.out _ fun g h1 h2=>by rw[Below.heap_setCell _ _ _ _ h2,Below.heap_setCell _ _ _ _ h2]
    have HQ3:Hid (∀v0 v1,(((w7.drew.setCell ⟨w.heap.size,0,none⟩ v0).setCell ⟨w.heap.size,1,none⟩ v1).alloc (.cells #[.int .i64 c1,.int .i64 0,.string ⟨#[]⟩] 46 (0,0))).cell? ⟨T,0,none⟩=some (.pointer (some ⟨b5,0,none⟩))∧(((w7.drew.setCell ⟨w.heap.size,0,none⟩ v0).setCell ⟨w.heap.size,1,none⟩ v1).alloc (.cells #[.int .i64 c1,.int .i64 0,.string ⟨#[]⟩] 46 (0,0))).cell? ⟨b5,0,none⟩=some (.int .i64 c1)):=Lib.hid fun v0 v1=>HK0.out _ fun g h1 h2=>by rw[heap_alloc_old _ _ (by simp only[World.size_setCell];exact h1),Below.heap_setCell _ _ _ _ h2,Below.heap_setCell _ _ _ _ h2]
    clear HK0 hr7 hw7 hc7 hz7 HB7 HB8
    refine wp_region_G [] (fun u=>u.cell? ⟨T,0,none⟩=some (.pointer (some ⟨b5,0,none⟩))∧u.cell? ⟨b5,0,none⟩=some (.int .i64 c1)) (by rfl) ?_ (fun hHeld=> ?_)
    ·exact⟨d0,d1⟩
    generalize hwd:World.drew w7=wd8 at HEB HQ2 HQ3 c0 c1x f0 f1 d0 d1 hl8 hT8 hb8 hHeld⊢
    refine tk 0 (h:=tk 1 (h:=tk 2 (h:=tk 3 (h:=tk 4 (h:=tk 5 (h:= ?_))))))
    try simp only[nmC]
    refine rd2 6 8 (fun KK hKK=> ?_) fun KK hKK=> ?_
    ·go_simp
     refine hKK.out _ _ (⟨(World.cell?_of_block (a:=⟨T,0,none⟩) (heap_alloc_old _ _ hT8)).trans d0,(World.cell?_of_block (a:=⟨b5,0,none⟩) (heap_alloc_old _ _ hb8)).trans d1⟩) (fun hHeld=> ?_)
     clear hKK KK
     try simp only[nmC]
     refine tk 7 (h:= ?_)
     try simp only[nmC]
     refine rd1 8 fun KK hKK=> ?_
     go_simp
     refine hKK.out _ _ (HQ3.out _ _) (fun hHeld=> ?_)
     clear hKK KK
     try simp only[nmC]
     refine tk 9 (h:= ?_)
     try simp only[nmC]
     refine wpAnyG_done (by kernel_rfl) ?_ _
     try go_wp2_with fail
     refine bodyPost_ret (readE_result _ _ w.heap.size (.slice none 0 0) (.slice none 0 0) (.iface 42 (.pointer (some ⟨wd8.heap.size,0,none⟩))) rfl (by go_simp) ?_ ?_) rfl (HEB.out _ _)
     iterate 2 (·first|(simp[c0,c1x];done)|(go_simp;done))
    ·go_simp
     refine hKK.out _ _ (HQ2.out _ _) (fun hHeld=> ?_)
     clear hKK KK
     try simp only[nmC]
     refine rd1 6 fun KK hKK=> ?_
     go_simp
     refine hKK.out _ _ (HQ3.out _ _) (fun hHeld=> ?_)
     clear hKK KK
     try simp only[nmC]
     refine tk 7 (h:=tk 9 (h:= ?_))
     try simp only[nmC]
     refine wpAnyG_done (by kernel_rfl) ?_ _
     try go_wp2_with fail
     refine bodyPost_ret (readE_result _ _ w.heap.size (.slice none 0 0) (.slice none 0 0) (.iface 42 (.pointer (some ⟨wd8.heap.size,0,none⟩))) rfl (by go_simp) ?_ ?_) rfl (HEB.out _ _)
     iterate 2 (·first|(simp[c0,c1x];done)|(go_simp;done))
   |none=>
    rw[hrc] at HRT HRE
    have hR:R=none:=HRE.out
    subst hR
    clear hrc HRE
    go_upto_region 12 with(go_at_call 11;refine HRT.out.mono ?_;rintro e w5 ⟨hb5,rfl⟩)
    have HS5:=Lib.hid (HSF.out.under hb5)
    have HB5:=Lib.hid (HUB.out.1.trans (hb5.mono HUB.out.1.size))
    have hr5:=(hb5.block w.heap.size (Array.getElem?_eq_some_iff.1 HUB.out.2).1).trans HUB.out.2
    obtain⟨z0,z1⟩:=cr2 w5 lo HS5.out.box
    obtain⟨c0,c1⟩:=cr2 w5 _ hr5
    have f0:=frozen_of_row w5 _ 0 _ _ hr5
    have f1:=frozen_of_row w5 _ 1 _ _ hr5
    simp only[gq] at z0 z1 c0 c1
    clear p0 p1 hb5 HSF HUB HRT
    have hne:w.heap.size≠lo:=by omega
    go_wp2_with fail
    have hset:∀k,k≠w.heap.size→∀(v0 v1:Value),((w5.setCell ⟨w.heap.size,0,none⟩ v0).setCell ⟨w.heap.size,1,none⟩ v1).heap[k]? =w5.heap[k]? :=by
     intro k hk v0 v1
     iterate 2 rw[Below.heap_setCell _ _ _ _ hk]
    refine bodyPost_ret (readE_result _ _ w.heap.size (.slice fa nf fc) (.slice ga m gc) _ rfl rfl ?_ ?_) rfl ⟨?_, ?_⟩
    iterate 2 (·first|(simp[c0,c1];done)|(go_simp;done))
    ·exact(HB5.out.setCell (Nat.le_refl _) _).setCell (Nat.le_refl _) _
    ·have hS5:=HS5.out
     have hk:=hS5.keep2 (W':=(w5.setCell ⟨w.heap.size,0,none⟩ (.slice fa nf fc)).setCell ⟨w.heap.size,1,none⟩ (.slice ga m gc)) (by simp only[World.size_setCell];exact Nat.le_refl _) fun g h1 _=>hset g (by omega) _ _
     obtain⟨nf',fa',fc',e1,e2,e3⟩:=hk.pg HP.out
     injection e1 with e1 e4 e5
     subst e1
     subst e4
     subst e5
     exact⟨_,_,_,_,_,_,_,rfl,e2,hk.gcap,e3⟩
  ·have e1:t.isEmpty=false:=by simpa using ht0
   have hd0:d≠0:=fun h=>ht0 (List.eq_nil_of_length_eq_zero (by rw[HD.out];exact h))
   have HT0:=Lib.hid ht0
   have hkn:k<n:=by omega
   have hkn2:(k:Int)+1≤2000001:=by omega
   obtain⟨f,p,hrd,hfl,hpl,hRI⟩:=HS.out
   have hub:=HUP.out wr hRI.low
   have HCT:=Lib.hid (cut_any t (by rw[HD.out];omega) wr (HG.out.up hub.1))
   have HRI:=Lib.hid hRI
   have HRD:=Lib.hid hrd
   have HPL:=Lib.hid hpl
   have HFL:=Lib.hid hfl
   have HUB:=Lib.hid hub
   clear hub hRI hrd hpl hfl HS ht0 hd0
   have HW:Hid (∀W,Calls Tryz.prog 35 #[.int .i64 130,.int .i64 ((k:Int)+1),.int .i64 (-1)] W (WrongPost W 130 ((k:Int)+1) none)):=Lib.hid fun W=>wrong_none 130 ((k:Int)+1) W
   go_upto_region 8 with(go_at_call 65;refine HCT.out.mono ?_;rintro e w2 ⟨x,r,ok,rfl,hb2,hxl,hct,hcf⟩)
   have HR2:=Lib.hid (HRI.out.under hb2)
   have hub:=HUP.out w2 HR2.out.low
   have HUB2:=Lib.hid hub
   have hxl2:x.length≤100000000:=by rw[HD.out] at hxl;omega
   clear hub HUB hb2 HRI HCT
   cases ok with
   |false=>
    have hR:R=some ⟨130,(k:Int)+1,none⟩:=by
     rw[←HR.out]
     unfold outR
     rw[HRD.out,linesL_cons HT0.out]
     rcases hq:cutAt 10 t with⟨y,_|r'⟩
     ·simp
     ·have:=hcf rfl;rw[hq] at this;cases this
    subst hR
    clear hct hcf
    go_wp2_with (go_at_call 35;refine(HW.out _).mono ?_;intro e w3 hpost;obtain⟨b3,rfl,hb3,hl3,hw3⟩:=WrongPost.out hpost;clear hpost;obtain⟨c0,c1,f0,f1,hfin⟩:=rea_err (p:=P) HUB2.out.1 HUB2.out.2 hb3 hl3 hw3;have HFIN:=Lib.hid hfin;clear hfin hb3 hl3 hw3)
    refine bodyPost_ret (readE_result _ _ w.heap.size (.slice none 0 0) (.slice none 0 0) _ rfl rfl ?_ ?_) rfl (HFIN.out _ _)
    iterate 2 (·first|(simp[c0,c1];done)|(go_simp;done))
   |true=>
    obtain⟨hq,hrl⟩:=hct rfl
    rw[HD.out] at hrl
    have HLN:=Lib.hid (line_any HR2.out (HG.out.up HUB2.out.1) HPL.out (by omega) hxl2)
    have hrd2:=HRD.out
    rw[linesL_cons HT0.out,hq] at hrd2
    dsimp only at hrd2
    clear hct hcf hq
    cases hlq:lineL p k x with
    |none=>
     rw[hlq] at hrd2
     have hR:R=some ⟨130,(k:Int)+1,none⟩:=by
      rw[←HR.out]
      unfold outR
      rw[hrd2]
      simp
     subst hR
     have HL2:Hid (Calls Tryz.prog 66 #[.pointer (some ⟨lo,0,none⟩),.int .i64 k,.string ⟨⟨x⟩⟩] w2 fun e W'=>e= .returned (.bool false)∧Below lo W0 W'):=Lib.hid (HLN.out.mono fun e W' ⟨ok,h1,h2,h3,h4⟩=>by
      cases ok with
      |false=>exact⟨h1,h2⟩
      |true=>obtain⟨q,hq,_⟩:=h3 rfl;rw[hlq] at hq;cases hq)
     clear hrd2 HLN hlq
     go_wp2_with (first
      |(go_at_call 66;refine HL2.out.mono ?_;rintro e w4 ⟨rfl,hb4⟩;have HUB4:=Lib.hid (HUP.out _ hb4);clear hb4)
      |(go_at_call 35;refine(HW.out _).mono ?_;intro e w3 hpost;obtain⟨b3,rfl,hb3,hl3,hw3⟩:=WrongPost.out hpost;clear hpost;obtain⟨c0,c1,f0,f1,hfin⟩:=rea_err (p:=P) HUB4.out.1 HUB4.out.2 hb3 hl3 hw3;have HFIN:=Lib.hid hfin;clear hfin hb3 hl3 hw3))
     refine bodyPost_ret (readE_result _ _ w.heap.size (.slice none 0 0) (.slice none 0 0) _ rfl rfl ?_ ?_) rfl (HFIN.out _ _)
     iterate 2 (·first|(simp[c0,c1];done)|(go_simp;done))
    |some q=>
     rw[hlq] at hrd2
     dsimp only at hrd2
     have HL2:Hid (Calls Tryz.prog 66 #[.pointer (some ⟨lo,0,none⟩),.int .i64 k,.string ⟨⟨x⟩⟩] w2 fun e W'=>e= .returned (.bool true)∧RdJ s lo W0 (k+1) r W'):=Lib.hid (HLN.out.mono fun e W' ⟨ok,h1,h2,h3,h4⟩=>by
      cases ok with
      |false=>have:=h4 rfl;rw[hlq] at this;cases this
      |true=>
       obtain⟨q',hq',hri⟩:=h3 rfl
       rw[hlq] at hq'
       injection hq' with hq'
       subst hq'
       have hfl:=HFL.out
       rw[HD.out] at hfl hxl
       cases f with
       |zero=>omega
       |succ f=>exact⟨h1,f,q,hrd2,by omega,line_like HPL.out (by omega) hlq,hri⟩)
     clear hrd2 HLN hlq
     go_wp2_with (go_at_call 66;refine HL2.out.mono ?_;rintro e w4 ⟨rfl,hj4⟩;have HJ4:=Lib.hid hj4;clear hj4)
     go_roundw
     case rel=>exact⟨k+1,r,r.length,rfl,by simp,rfl,by omega,HJ4⟩
     case measure=>simp[intOf];omega
theorem bad_ok:CpOk ⟨[badF],[]⟩:=⟨by decide,by decide,fun f hf=>by
 rw[List.mem_singleton.1 hf]
 refine⟨by show(0:Nat)≤_;omega,okI0,okI0,okIm,by show(0:Nat)≤_;omega,by show(1:Nat)≤_;omega,fun t ht=>(nomatch ht),fun x hx=> ?_⟩
 rw[List.mem_singleton.1 hx]
 exact least_ci 50 ⟨by decide,by decide⟩,fun s hs=>(nomatch hs)⟩
theorem least_tame:Tame least:=⟨least_ok,fun f hf=>by rw[List.mem_singleton.1 hf];exact Nat.zero_le _,fun f hf x hx=>by
 rw[List.mem_singleton.1 hf] at hx
 rcases List.mem_cons.1 hx with rfl|hx
 ·exact Nat.zero_le _
 ·rw[List.mem_singleton.1 hx];exact Nat.zero_le _,by decide⟩
theorem bad_tame:Tame ⟨[badF],[]⟩:=⟨bad_ok,fun f hf=>by rw[List.mem_singleton.1 hf];exact Nat.zero_le _,fun f hf x hx=>by
 rw[List.mem_singleton.1 hf] at hx
 rw[List.mem_singleton.1 hx];exact Nat.zero_le _,by decide⟩
theorem right_lies {w:World} {p:Cp} {v:Value} (hG:Gc w) (hv:LiesC w w.heap.size p v) (ht:Tame p):Calls Tryz.prog 11 #[v] w (RightPost w (rightC p)):=by
 obtain⟨n,m,fa,fc,ga,gc,xs,rfl,h1,h2,hp⟩:=hv.pieces
 exact right_all hp h1 h2 ht hG
theorem right_leastG {w:World} {v:Value} (hG:Gc w) (hv:LiesC w w.heap.size least v):Calls Tryz.prog 11 #[v] w (RightPost w none):=by
 have:=right_lies hG hv least_tame
 rw[least_right] at this
 exact this
theorem right_badG {w:World} {v:Value} (hG:Gc w) (hv:LiesC w w.heap.size ⟨[badF],[]⟩ v):Calls Tryz.prog 11 #[v] w (RightPost w (some ⟨130,0,some 0⟩)):=by
 have:=right_lies hG hv bad_tame
 rw[show rightC ⟨[badF],[]⟩=some ⟨130,0,some 0⟩ from least_bad] at this
 exact this
theorem encode_leastG {w:World} {v:Value} (hG:Gc w) (hv:LiesC w w.heap.size least v):Calls Tryz.prog 12 #[v] w fun e w'=>e= .returned (.tuple #[.string ⟨⟨leastB⟩⟩,.nilIface])∧Below w.heap.size w w':=by
 obtain⟨n,m,fa,fc,ga,gc,xs,rfl,h1,h2,hp⟩:=hv.pieces
 refine(encode_any hp h1 h2 least_tame hG fun _=>by rw[least_bytes];decide).mono fun e w' ⟨h1,h2⟩=> ?_
 rw[least_right] at h2
 dsimp only at h2
 rw[least_bytes] at h2
 exact⟨h2,h1⟩
theorem list_leastG {w:World} {v:Value} (hG:Gc w) (hv:LiesC w w.heap.size least v):Calls Tryz.prog 13 #[v] w fun e w'=>e= .returned (.tuple #[.string ⟨⟨leastL⟩⟩,.nilIface])∧Below w.heap.size w w':=by
 obtain⟨n,m,fa,fc,ga,gc,xs,rfl,h1,h2,hp⟩:=hv.pieces
 refine(list_any hp h1 h2 least_tame hG (fun _=>by rw[least_lines];decide) (fun f hf x hx=>by
  rw[List.mem_singleton.1 hf] at hx
  rcases List.mem_cons.1 hx with rfl|hx
  ·exact Nat.zero_le _
  ·rw[List.mem_singleton.1 hx];exact Nat.zero_le _)).mono fun e w' ⟨h1,h2⟩=> ?_
 rw[least_right] at h2
 dsimp only at h2
 rw[least_lines] at h2
 exact⟨h2,h1⟩
theorem decode_leastG {w:World} (hG:Gc w):Calls Tryz.prog 24 #[.string ⟨⟨leastB⟩⟩] w fun e w'=>∃v,e= .returned (.tuple #[v,.nilIface])∧LiesC w' w'.heap.size least v∧Below w.heap.size w w':=by
 refine(decode_any (by decide) hG).mono fun e w' ⟨h1,h2⟩=> ?_
 rw[show outD leastB=none by unfold outD;rw[least_dec];exact least_right] at h2
 obtain⟨vf,vg,xs,gs,rfl,hp,hown⟩:=h2
 obtain⟨n,m,fa,fc,ga,gc,rfl,rfl,hn,hm,hpg⟩:=hown.pg
 rw[←hp,least_dec] at hpg
 exact⟨_,rfl,hpg.lies hn hm,h1⟩
theorem read_leastG {w:World} (hG:Gc w) (hE:Ge w):Calls Tryz.prog 28 #[.string ⟨⟨leastL⟩⟩] w fun e w'=>∃v,e= .returned (.tuple #[v,.nilIface])∧LiesC w' w'.heap.size least v∧Below w.heap.size w w':=by
 refine(read_any (by decide) hG hE).mono fun e w' ⟨h1,h2⟩=> ?_
 rw[show outR leastL=none by unfold outR;rw[least_read];dsimp only;rw[least_right]] at h2
 obtain⟨n,m,fa,fc,ga,gc,xs,rfl,hn,hm,hpg⟩:=h2
 rw[least_read] at hpg
 exact⟨_,rfl,hpg.lies hn hm,h1⟩
theorem known_all {w:World} (hG:Gc w) (hE:Ge w):Calls Tryz.prog 8 #[] w fun e w'=>e= .returned (.bool true)∧Below w.heap.size w w':=by
 have HG:=Lib.hid hG
 have HE:=Lib.hid hE
 clear hG hE
 go_enter Tryz.func8,Tryz.ntmps8
 go_upto_region 2 with(go_at_call 29;refine(least_any _).mono ?_;rintro e w1 ⟨v1,rfl,hl1,hb1⟩;obtain⟨n1,m1,fa1,fc1,ga1,gc1,xs1,rfl,_,_,_⟩:=hl1.pieces)
 have HK:=Lib.hid (KnAt.new hb1 hl1)
 obtain⟨pb,hpb⟩:∃pb,w1.heap.size=pb:=⟨_,rfl⟩
 obtain⟨W1,hW1⟩:∃W1,w1.alloc (.cells #[.slice fa1 n1 fc1,.slice ga1 m1 gc1] 27 (0,0))=W1:=⟨_,rfl⟩
 simp only[hpb,hW1] at HK⊢
 obtain⟨c0,c1⟩:=HK.out.cs
 clear hl1 hb1 hpb hW1
 go_upto_region 3 with(go_at_call 11;refine(right_leastG (HG.out.up HK.out.low) HK.out.lies).mono ?_;rintro e w2 ⟨hb2,rfl⟩;have HK2:=Lib.hid (HK.out.under hb2);obtain⟨d0,d1⟩:=HK2.out.cs;clear hb2)
 clear c0 c1 HK
 go_upto_region 4 with(go_at_call 12;refine(encode_leastG (HG.out.up HK2.out.low) HK2.out.lies).mono ?_;rintro e w3 ⟨rfl,hb3⟩;rw[least_B];have HK3:=Lib.hid (HK2.out.under hb3);clear hb3)
 clear d0 d1 HK2
 go_upto_region 5 with(go_at_call 24;refine(decode_leastG (HG.out.up HK3.out.low)).mono ?_;rintro e w4 ⟨q,rfl,hq4,hb4⟩;obtain⟨n2,m2,fa2,fc2,ga2,gc2,xs2,rfl,_,_,_⟩:=hq4.pieces)
 have HK4:=Lib.hid (HK3.out.under hb4)
 have HQ:=Lib.hid (KnAt.new HK4.out.low hq4)
 have HK5:=Lib.hid (HK4.out.alloc (.cells #[.slice fa2 n2 fc2,.slice ga2 m2 gc2] 27 (0,0)))
 obtain⟨qb,hqb⟩:∃qb,w4.heap.size=qb:=⟨_,rfl⟩
 obtain⟨W5,hW5⟩:∃W5,w4.alloc (.cells #[.slice fa2 n2 fc2,.slice ga2 m2 gc2] 27 (0,0))=W5:=⟨_,rfl⟩
 simp only[hqb,hW5] at HQ HK5⊢
 obtain⟨c0,c1⟩:=HK5.out.cs
 clear hq4 hb4 hqb hW5 HK3 HK4
 go_upto_region 6 with(go_at_call 13;refine(list_leastG (HG.out.up HK5.out.low) HK5.out.lies).mono ?_;rintro e w6 ⟨rfl,hb6⟩;have HK6:=Lib.hid (HK5.out.under hb6);have HQ6:=Lib.hid (HQ.out.under hb6);clear hb6)
 clear c0 c1 HK5 HQ
 go_upto_region 7 with(go_at_call 28;refine(read_leastG (HG.out.up HK6.out.low) (HE.out.up HK6.out.low)).mono ?_;rintro e w7 ⟨r,rfl,hr7,hb7⟩;obtain⟨n3,m3,fa3,fc3,ga3,gc3,xs3,rfl,_,_,_⟩:=hr7.pieces)
 have HK7:=Lib.hid (HK6.out.under hb7)
 have HQ7:=Lib.hid (HQ6.out.under hb7)
 have HR:=Lib.hid (KnAt.new HK7.out.low hr7)
 have HK8:=Lib.hid (HK7.out.alloc (.cells #[.slice fa3 n3 fc3,.slice ga3 m3 gc3] 27 (0,0)))
 have HQ8:=Lib.hid (HQ7.out.alloc (.cells #[.slice fa3 n3 fc3,.slice ga3 m3 gc3] 27 (0,0)))
 obtain⟨rb,hrb⟩:∃rb,w7.heap.size=rb:=⟨_,rfl⟩
 obtain⟨W8,hW8⟩:∃W8,w7.alloc (.cells #[.slice fa3 n3 fc3,.slice ga3 m3 gc3] 27 (0,0))=W8:=⟨_,rfl⟩
 simp only[hrb,hW8] at HR HK8 HQ8⊢
 clear hr7 hb7 hrb hW8 HK6 HQ6 HK7 HQ7
 have hB9:∀A B:Obj,Below W8.heap.size W8 ((W8.alloc A).alloc B):=fun A B=>((Below.refl _ _).alloc (Nat.le_refl _) A).alloc (by simp) B
 have HB9:=Lib.hid hB9
 have hbad:LiesC ((W8.alloc (.cells #[.int .i64 50,.int .i64 0,.int .i64 0,.string ⟨#[]⟩,.int .i64 0] 36 (0,0))).alloc (.cells #[.string ⟨#[]⟩,.int .i64 0,.int .i64 0,.slice none 0 0,.int .i64 (-1),.slice (some ⟨W8.heap.size,0,none⟩) 1 1] 33 (0,0))) ((W8.alloc (.cells #[.int .i64 50,.int .i64 0,.int .i64 0,.string ⟨#[]⟩,.int .i64 0] 36 (0,0))).alloc (.cells #[.string ⟨#[]⟩,.int .i64 0,.int .i64 0,.slice none 0 0,.int .i64 (-1),.slice (some ⟨W8.heap.size,0,none⟩) 1 1] 33 (0,0))).heap.size ⟨[badF],[]⟩ (.agg #[.slice (some ⟨W8.heap.size+1,0,none⟩) 1 1,.slice none 0 0]):=by
  have n1:=heap_alloc_new W8 (.cells #[.int .i64 50,.int .i64 0,.int .i64 0,.string ⟨#[]⟩,.int .i64 0] 36 (0,0))
  have n2:=heap_alloc_new (W8.alloc (.cells #[.int .i64 50,.int .i64 0,.int .i64 0,.string ⟨#[]⟩,.int .i64 0] 36 (0,0))) (.cells #[.string ⟨#[]⟩,.int .i64 0,.int .i64 0,.slice none 0 0,.int .i64 (-1),.slice (some ⟨W8.heap.size,0,none⟩) 1 1] 33 (0,0))
  rw[World.size_alloc] at n2
  exact one_lies (f:=badF) rfl rfl rfl rfl n2 ((heap_alloc_old _ _ (by simp)).trans n1)
 have HBAD:=Lib.hid hbad
 clear hB9 hbad
 go_upto_region 8 with(go_at_call 11;refine(right_badG (HG.out.up (HK8.out.low.trans ((HB9.out _ _).mono HK8.out.low.size))) HBAD.out).mono ?_;rintro e w9 ⟨hb9,jb,rfl,hjb,hwr⟩)
 have hb9':=(HB9.out _ _).trans (hb9.mono (HB9.out _ _).size)
 have HK9:=Lib.hid (HK8.out.under hb9')
 have HQ9:=Lib.hid (HQ8.out.under hb9')
 have HR9:=Lib.hid (HR.out.under hb9')
 have HWR:=Lib.hid hwr
 clear hb9 hb9' hwr HK8 HQ8 HR HBAD HB9 hjb
 go_upto_region 9 with(go_at_call 17;refine(told_wrong HWR.out 130 0 ⟨#[48]⟩ (by decide)).mono ?_;rintro e w10 ⟨rfl,hb10⟩;rw[ins0])
 have HK10:=Lib.hid (HK9.out.under hb10)
 have HQ10:=Lib.hid (HQ9.out.under hb10)
 have HR10:=Lib.hid (HR9.out.under hb10)
 obtain⟨c0,c1⟩:=HK10.out.cs
 obtain⟨d0,d1⟩:=HQ10.out.cs
 clear hb10 HK9 HQ9 HR9 HWR
 obtain⟨g0,g1⟩:=HR10.out.cs
 have hw10:=HK10.out.low
 go_wp2_with (first
  |(go_at_call 25;with_reducible refine(same_least HK10.out.lies HQ10.out.lies).mono ?_;rintro e w11 ⟨rfl,hb11⟩;have HK11:=Lib.hid (HK10.out.under hb11);have HQ11:=Lib.hid (HQ10.out.under hb11);have HR11:=Lib.hid (HR10.out.under hb11);obtain⟨k0,k1⟩:=HK11.out.cs;obtain⟨l0,l1⟩:=HR11.out.cs)
  |(go_at_call 25;with_reducible refine(same_least HK11.out.lies HR11.out.lies).mono ?_;rintro e w12 ⟨rfl,hb12⟩;have HK12:=Lib.hid (HK11.out.under hb12);have HQ12:=Lib.hid (HQ11.out.under hb12);obtain⟨m0,m1⟩:=HK12.out.cs;obtain⟨o0,o1⟩:=HQ12.out.cs)
  |(go_at_call 30;with_reducible refine(sameC_least HK12.out.lies HQ12.out.lies).mono ?_;rintro e w13 ⟨rfl,hb13⟩))
 go_ret
 exact⟨rfl,HK12.out.low.trans (hb13.mono HK12.out.low.size)⟩
end Go.Proofs.YtagnicbknbmccaaGreatDoor
