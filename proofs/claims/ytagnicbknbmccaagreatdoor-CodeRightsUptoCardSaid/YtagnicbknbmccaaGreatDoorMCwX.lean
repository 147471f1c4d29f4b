/- code.many, code.globals, code.headed of a program of one function. code.fine of an instruction as the plain ones are. code.float: is a text a float's bits. guiseref6.IsNaN, guiseref13.float: what they return. -/
import Derived.Laws.OwnMore
import Derived.Deep.DeepCutAuto
import Derived.Test.YtagnicbknbmccaaGreatDoorSqC
import Derived.Test.YtagnicbknbmccaaGreatDoorMCwG
import Derived.Test.YtagnicbknbmccaaGreatDoorMCwP
import Derived.Test.YtagnicbknbmccaaGreatDoorMCwO
import Derived.Test.YtagnicbknbmccaaGreatDoorMRfF
import Derived.Test.YtagnicbknbmccaaGreatDoorMRfA
set_option maxRecDepth 100000
set_option maxHeartbeats 8000000
namespace Go.Proofs.YtagnicbknbmccaaGreatDoor
open Go.RowKit
structure One (p:Cp) (f:Cf):Prop where
 fs:p.funcs=[f]
 gs:p.globals=[]
 code:f.code.length≤60000
 slots:f.slots≤20000
 taken:f.taken.length≤20000
structure OneAt (w:World) (B:Nat) (f:Cf) (g off:Nat) (fv:Fv):Prop where
 lt:g<B
 cs:w.cell? ⟨g,off,none⟩=some (.string f.name)∧w.cell? ⟨g,off+1,none⟩=some (.int .i64 f.params)∧w.cell? ⟨g,off+2,none⟩=some (.int .i64 f.slots)∧w.cell? ⟨g,off+3,none⟩=some (.slice fv.ta f.taken.length fv.tc)∧
   w.cell? ⟨g,off+4,none⟩=some (.int .i64 f.around)∧w.cell? ⟨g,off+5,none⟩=some (.slice fv.ca f.code.length fv.cc)
 own:LiesF w B (f,fv)
theorem LiesC.one {w:World} {B:Nat} {p:Cp} {v:Value} {f:Cf} (h:LiesC w B p v) (ho:One p f):∃g off fc ga gc fv,v= .agg #[.slice (some ⟨g,off,none⟩) 1 fc,.slice ga 0 gc]∧1≤fc∧OneAt w B f g off fv:=by
 obtain⟨fa,fc,ga,gc,xs,h1,rfl,h3,h4,h5,h6,h7⟩:=h
 rw[ho.fs] at h1 h5
 rw[ho.gs] at h6⊢
 rw[ho.fs]
 obtain⟨y,rfl⟩:∃y,xs=[y]:=by
  match xs,h1 with
  | [y],_=>exact⟨y,rfl⟩
 simp only[List.map_cons,List.map_nil,List.cons.injEq,and_true] at h1
 obtain⟨f',fv⟩:=y
 obtain rfl:f'=f:=h1
 obtain⟨g,off,rfl,hg,hc⟩:=h3.at (by simp[fnCells])
 have hcs:=fn_at (i:=0) hc rfl
 simp only[Nat.zero_mul,Nat.add_zero] at hcs
 exact⟨g,off,fc,ga,gc,fv,rfl,h5,hg,hcs,h7 _ (List.mem_singleton.2 rfl)⟩
theorem OneAt.keep {w w':World} {B:Nat} {f:Cf} {g off:Nat} {fv:Fv} (h:OneAt w B f g off fv) (hk:∀b,b<B→w'.heap[b]? =w.heap[b]?):OneAt w' B f g off fv:=by
 have e:∀o,w'.cell? ⟨g,o,none⟩=w.cell? ⟨g,o,none⟩:=fun o=>World.cell?_of_block (w:=w) (a:=⟨g,o,none⟩) (hk g h.lt)
 refine⟨h.lt, ?_,h.own.keep hk⟩
 rw[e,e,e,e,e,e]
 exact h.cs
theorem many_one {p:Cp} {f:Cf} (ho:One p f) {v:Value} {w:World} (hv:LiesC w w.heap.size p v):
  Calls Tryz.prog 33 #[v] w fun e w'=>e= .returned (.pointer none)∧Below w.heap.size w w':=by
 obtain⟨g,off,fc,ga,gc,fv,rfl,hfc,hA⟩:=hv.one ho
 obtain⟨n,hn⟩:∃n,f.code.length=n:=⟨_,rfl⟩
 obtain⟨t,ht⟩:∃t,f.taken.length=t:=⟨_,rfl⟩
 have HC:=Lib.hid hA.cs
 have hg:=hA.lt
 have h1:=ho.code
 have h2:=ho.slots
 have h3:=ho.taken
 rw[hn] at h1 HC
 rw[ht] at h3 HC
 have HCS:=Lib.hid (fun(W:World) (hb:Below w.heap.size w W)=>(hA.keep hb.block).cs)
 rw[hn,ht] at HCS
 clear hv hA ho hn ht
 go_enter Tryz.func33,Tryz.ntmps33
 have HB0:Hid (Below w.heap.size w (w.alloc (.cells #[.slice (some ⟨g,off,none⟩) 1 fc,.slice ga 0 gc] 27 (0,0)))):=Lib.hid ((Below.refl _ _).alloc (Nat.le_refl _) _)
 have HP0:=Lib.hid (heap_alloc_new w (.cells #[.slice (some ⟨g,off,none⟩) 1 fc,.slice ga 0 gc] 27 (0,0)))
 go_wp2_with fail
 go_loopw [3,11] (fun all i wr=>Hid (Below w.heap.size w wr)∧Hid (wr.heap[w.heap.size]? =some (.cells #[.slice (some ⟨g,off,none⟩) 1 fc,.slice ga 0 gc] 27 (0,0)))∧((all= .int .i64 0∧i= .int .i64 0)∨(all= .int .i64 n∧i= .int .i64 1))) (fun _ i _=>1-(intOf i).toNat)
 case atStart=>exact⟨HB0,HP0,.inl ⟨rfl,rfl⟩⟩
 case round=>
  obtain⟨HB,HP,h⟩:=hrel
  obtain⟨x0,x1,x2,x3,x4,x5⟩:=HCS.out _ HB.out
  rcases h with⟨rfl,rfl⟩|⟨rfl,rfl⟩
  ·go_wp2_with fail
   go_roundw
   case rel=>exact⟨Lib.hid (HB.out.alloc HB.out.size _),Lib.hid ((heap_alloc_old _ _ (Array.getElem?_eq_some_iff.1 HP.out).1).trans HP.out),.inr ⟨rfl,rfl⟩⟩
   case measure=>simp[intOf]
  ·have q0:=cell_of_row wr w.heap.size 0 _ _ _ HP.out
   have q1:=cell_of_row wr w.heap.size 1 _ _ _ HP.out
   simp only[gq] at q0 q1
   have dn:decide (60000<(n:Int))=false:=by simp;omega
   go_wp2_with fail
   go_loopw [45] (fun i wr=>Hid (Below w.heap.size w wr)∧(i= .int .i64 0∨i= .int .i64 1)) (fun i _=>1-(intOf i).toNat)
   case atStart=>exact⟨HB,.inl rfl⟩
   case round=>
    obtain⟨HB2,h⟩:=hrel
    rcases h with rfl|rfl
    ·obtain⟨z0,z1,z2,z3,z4,z5⟩:=HCS.out _ HB2.out
     have ds:decide (20000<f.slots)=false:=by simp;omega
     have dt:decide (20000<(t:Int))=false:=by simp;omega
     clear x0 x1 x2 x3 x4 x5
     go_wp2_with fail
     go_roundw
     case rel=>exact⟨Lib.hid (HB2.out.alloc HB2.out.size _),.inr rfl⟩
     case measure=>simp[intOf]
    ·go_wp2_with fail
     go_ret
     exact⟨rfl,HB2.out⟩
theorem mapNew (w:World):(Instr.makeMap 71 none).run Tryz.prog w= .ok (.map (some w.heap.size)) (w.alloc (.map #[] 0)):=rfl
theorem globals_none (ga:Option Addr) (gc:Nat) (w:World):Calls Tryz.prog 34 #[.slice ga 0 gc] w fun e w'=>e= .returned (.bool true)∧Below w.heap.size w w':=by
 have hm:=mapNew
 go_enter Tryz.func34,Tryz.ntmps34
 have HB0:Hid (Below w.heap.size w (w.alloc (.map #[] 0))):=Lib.hid ((Below.refl _ _).alloc (Nat.le_refl _) _)
 go_wp2_with fail
 go_loopw [9] (fun i wr=>Hid (Below w.heap.size w wr)∧i= .int .i64 0) (fun _ _=>0)
 case atStart=>exact⟨HB0,rfl⟩
 case round=>
  obtain⟨HB,rfl⟩:=hrel
  go_wp2_with fail
  go_ret
  exact⟨rfl,HB.out⟩
theorem headed_one {p:Cp} {f:Cf} (ho:One p f) {v:Value} {w:World} (hv:LiesC w w.heap.size p v) (mv:Value):
  Calls Tryz.prog 36 #[v,.int .i64 0,mv] w fun e w'=>e= .returned (.bool (headedB p.funcs 0 f []))∧Below w.heap.size w w':=by
 obtain⟨g,off,fc,ga,gc,fv,rfl,hfc,hA⟩:=hv.one ho
 obtain⟨n,hn⟩:∃n,f.code.length=n:=⟨_,rfl⟩
 obtain⟨t,ht⟩:∃t,f.taken.length=t:=⟨_,rfl⟩
 obtain⟨x0,x1,x2,x3,x4,x5⟩:=hA.cs
 have hg:=hA.lt
 obtain⟨R,HR⟩:∃R,Hid (headedB p.funcs 0 f []=R):=⟨_,rfl⟩
 have hr:=HR.out
 unfold headedB at hr
 rw[if_pos rfl,ht] at hr
 rw[HR.out]
 rw[hn] at x5
 rw[ht] at x3
 have hne:f.name.toList.isEmpty=(f.name.data.toList==[]):=by rw[ByteArray.toList_eq];cases f.name.data.toList<;>rfl
 have HRR:=Lib.hid hr
 clear hv hA ho hn ht hr HR
 go_enter Tryz.func36,Tryz.ntmps36
 by_cases h1:f.params<0∨13<f.params∨f.slots<f.params
 ·have hr:=HRR.out
  rw[if_pos h1] at hr
  have HR2:=Lib.hid hr
  clear hr
  rcases h1 with h1|h1|h1
  all_goals
   go_wp2_with fail
   all_goals
    go_ret
    refine⟨ret_bool (by rw[←HR2.out]), ?_⟩
    exact((Below.refl _ _).alloc (Nat.le_refl _) _).alloc (by simp) _
 ·have hr:=HRR.out
  rw[if_neg h1] at hr
  have HR2:=Lib.hid hr
  obtain⟨a1,a2⟩:=not_or.1 h1
  obtain⟨a3,a4⟩:=not_or.1 a2
  have d1:decide (f.params<0)=false:=decide_eq_false a1
  have d2:decide (13<f.params)=false:=decide_eq_false a3
  have d3:decide (f.slots<f.params)=false:=decide_eq_false a4
  clear hr h1 a1 a2 a3 a4
  cases e1:(f.name.data.toList==[])<;>cases e2:(f.params==0)<;>cases e3:((t:Int)==0)<;>cases e4:(f.around== -1)
  all_goals
   rw[e1] at hne
   go_wp2_with fail
   all_goals
    go_ret
    refine⟨ret_bool (by rw[←HR2.out,e1,e2];simp_all), ?_⟩
    exact((Below.refl _ _).alloc (Nat.le_refl _) _).alloc (by simp) _
structure PlainI (p:Cp) (f:Nat) (x:Ci):Prop where
 word:(formOf x.op).word.isEmpty=false
 at0:0≤x.at_
 at1:x.at_≤60000
 num:numberedB p f x=true
 text:(formOf x.op).text=0
 says:saysB x=true
 b0:x.b=0
 goes:goesB x.op=false
 n26:x.op≠26
theorem fine_plain {p:Cp} {v:Value} {w:World} (hG:Gc w) (hv:LiesC w w.heap.size p v) {f k:Nat} {o:Cf} (ho:p.funcs[f]? =some o) {x:Ci} (hx:o.code[k]? =some x) (hlen:o.code.length≤60000) (hp:PlainI p f x):
  Calls Tryz.prog 37 #[v,.int .i64 f,.int .i64 k] w fun e w'=>e= .returned (.bool (decide (k+1<o.code.length)||(x.op==50||x.op==34)))∧Below w.heap.size w w':=by
 have HV:=Lib.hid hv
 have HGc:=Lib.hid hG
 obtain⟨fa,fc,ga,gc,xs,h1,rfl,h3,h4,h5,h6,h7⟩:=hv
 have hfl:f<p.funcs.length:=(List.getElem?_eq_some_iff.1 ho).1
 have hkl:k<o.code.length:=(List.getElem?_eq_some_iff.1 hx).1
 have hlx:xs.length=p.funcs.length:=by have:=congrArg List.length h1;simpa using this
 obtain⟨y,hy⟩:∃y,xs[f]? =some y:=⟨_,List.getElem?_eq_getElem (by omega)⟩
 have hyo:y.1=o:=by
  have:(xs.map Prod.fst)[f]? =some y.1:=by simp[hy]
  rw[h1,ho] at this
  exact(Option.some.inj this).symm
 obtain⟨o',fv⟩:=y
 obtain rfl:o'=o:=hyo
 obtain⟨g,off,rfl,hg,hc⟩:=h3.at (by rw[flat_len fn_len];omega)
 have c5:=(fn_at hc hy).2.2.2.2.2
 obtain⟨_,hcr,_,_⟩:=h7 _ (List.mem_of_getElem? hy)
 dsimp only at hcr
 obtain⟨ca,co,hca,hcb,hcc⟩:=hcr.at (by rw[flat_len ins_len];omega)
 rw[hca] at c5
 obtain⟨x0,x1,x2,x3,x4⟩:=ins_at hcc hx
 have HCC:=Lib.hid hcc
 have HF:=Lib.hid (forms_call x.op)
 obtain⟨F,hF⟩:∃F,formOf x.op=F:=⟨_,rfl⟩
 rw[hF] at HF
 have HO:=Lib.hid ho
 have HXK:=Lib.hid hx
 have HS:=Lib.hid (says_plain x hp.text)
 obtain⟨n,hn⟩:∃n,o'.code.length=n:=⟨_,rfl⟩
 have HN:=Lib.hid hn
 obtain⟨m,hm⟩:∃m,p.funcs.length=m:=⟨_,rfl⟩
 rw[hn] at hkl hlen c5⊢
 rw[hm] at hfl h5⊢
 have HFF:=Lib.hid hF
 have HPV:Hid (LiesC w w.heap.size p (.agg #[.slice (some ⟨g,off,none⟩) m fc,.slice ga p.globals.length gc])):=by rw[←hm];exact HV
 have HPL:=Lib.hid hp
 clear h1 h3 h4 h6 h7 hc hy ho hx hp hn hm hF hca hcr hcc hlx hG HV
 obtain⟨R,HR⟩:∃R,Hid ((decide (k+1<n)||(x.op==50||x.op==34))=R):=⟨_,rfl⟩
 rw[HR.out]
 go_enter Tryz.func37,Tryz.ntmps37
 go_upto_region 4 with(go_at_call 44;refine(HF.out _).mono ?_;rintro e w4 ⟨rfl,hb4⟩)
 have hFN:FnAt w (.agg #[.slice (some ⟨g,off,none⟩) m fc,.slice ga p.globals.length gc]) #[.int .i64 x.op,.int .i64 x.a,.int .i64 x.b,.string x.text,.int .i64 x.at_] F w.heap.size (w.heap.size+1) w4.heap.size (w4.alloc (.cells #[.string ⟨⟨F.word⟩⟩,.int .i64 F.a,.int .i64 F.text,.string ⟨⟨F.takes⟩⟩,.string ⟨⟨F.lays⟩⟩] 86 (0,0))):=by
  have hs2:((w.alloc (.cells #[.slice (some ⟨g,off,none⟩) m fc,.slice ga p.globals.length gc] 27 (0,0))).alloc (.cells #[.int .i64 x.op,.int .i64 x.a,.int .i64 x.b,.string x.text,.int .i64 x.at_] 36 (0,0))).heap.size=w.heap.size+2:=by simp
  have hn1:=heap_alloc_new (w.alloc (.cells #[.slice (some ⟨g,off,none⟩) m fc,.slice ga p.globals.length gc] 27 (0,0))) (.cells #[.int .i64 x.op,.int .i64 x.a,.int .i64 x.b,.string x.text,.int .i64 x.at_] 36 (0,0))
  rw[World.size_alloc] at hn1
  have hn0:=(heap_alloc_old (w.alloc (.cells #[.slice (some ⟨g,off,none⟩) m fc,.slice ga p.globals.length gc] 27 (0,0))) (.cells #[.int .i64 x.op,.int .i64 x.a,.int .i64 x.b,.string x.text,.int .i64 x.at_] 36 (0,0)) (show w.heap.size<_ by simp)).trans (heap_alloc_new w _)
  have hB2:Below w.heap.size w ((w.alloc (.cells #[.slice (some ⟨g,off,none⟩) m fc,.slice ga p.globals.length gc] 27 (0,0))).alloc (.cells #[.int .i64 x.op,.int .i64 x.a,.int .i64 x.b,.string x.text,.int .i64 x.at_] 36 (0,0))):=((Below.refl _ _).alloc (Nat.le_refl _) _).alloc (by simp) _
  rw[hs2] at hb4
  have hs4:=hb4.size
  rw[hs2] at hs4
  refine⟨(hB2.trans (hb4.mono (by omega))).alloc (by omega) _,⟨_,rfl,(heap_alloc_old _ _ (by omega)).trans ((hb4.block _ (by omega)).trans hn0)⟩,(heap_alloc_old _ _ (by omega)).trans ((hb4.block _ (by omega)).trans hn1),heap_alloc_new _ _⟩
 obtain⟨pb,hpb⟩:∃pb,w.heap.size=pb:=⟨_,rfl⟩
 obtain⟨fb,hfb⟩:∃fb,w4.heap.size=fb:=⟨_,rfl⟩
 obtain⟨W0,hW0⟩:∃W0,w4.alloc (.cells #[.string ⟨⟨F.word⟩⟩,.int .i64 F.a,.int .i64 F.text,.string ⟨⟨F.takes⟩⟩,.string ⟨⟨F.lays⟩⟩] 86 (0,0))=W0:=⟨_,rfl⟩
 rw[hW0] at hFN
 rw[hW0]
 rw[show FnAt w (.agg #[.slice (some ⟨g,off,none⟩) m fc,.slice ga p.globals.length gc]) #[.int .i64 x.op,.int .i64 x.a,.int .i64 x.b,.string x.text,.int .i64 x.at_] F w.heap.size (w.heap.size+1) w4.heap.size W0=FnAt w (.agg #[.slice (some ⟨g,off,none⟩) m fc,.slice ga p.globals.length gc]) #[.int .i64 x.op,.int .i64 x.a,.int .i64 x.b,.string x.text,.int .i64 x.at_] F pb (pb+1) fb W0 by rw[hpb,hfb]] at hFN
 have HFN:=Lib.hid hFN
 obtain⟨z0,z1,z2,z3,z4⟩:=HFN.out.xc
 obtain⟨p0,p1⟩:=HFN.out.pc
 have f0:=HFN.out.fc
 simp only[hpb,hfb]
 have hp:=HPL.out
 have ew:F.word.isEmpty=false:=by rw[←HFF.out];exact hp.word
 have e26:(x.op==26)=false:=by simp[hp.n26]
 have hwe:(⟨⟨F.word⟩⟩:ByteArray).toList.isEmpty=F.word.isEmpty:=by rw[ByteArray.toList_eq]
 have dA:decide (x.at_<0)=false:=decide_eq_false (by have:=hp.at0;omega)
 have dB:decide (60000<x.at_)=false:=decide_eq_false (by have:=hp.at1;omega)
 have db:(x.b==0)=true:=by simp[hp.b0]
 have db2:(x.b !=0)=false:=by simp[hp.b0]
 have en:=hp.num
 have es:=hp.says
 have eg:=hp.goes
 clear hFN hW0 hb4 hfb x0 x1 x2 x3 x4 hp HF
 go_wp2_with (first
  |(go_at_call 81;refine(numbered_any ((HPV.out.keep fun b hb=>HFN.out.low.block b hb).more HFN.out.low.size) HO.out x).mono ?_;rintro e w6 ⟨rfl,hb6⟩;rw[en];have HFN6:=Lib.hid (HFN.out.under hb6);obtain⟨r0,r1,r2,r3,r4⟩:=HFN6.out.xc;clear hb6)
  |(go_at_call 82;refine(HS.out _ (HGc.out.up HFN6.out.low)).mono ?_;rintro e w7 ⟨rfl,hb7⟩;rw[es];have HFN7:=Lib.hid (HFN6.out.under hb7);obtain⟨q0,q1,q2,q3,q4⟩:=HFN7.out.xc;clear hb7)
  |(go_at_call 83;refine(goes_any _ _).mono ?_;rintro e w8 ⟨rfl,hb8⟩;rw[eg];have HFN8:=Lib.hid (HFN7.out.under hb8);obtain⟨u0,u1,u2,u3,u4⟩:=HFN8.out.xc;skip;clear hb8))
 all_goals
  go_ret
  refine⟨ret_bool ?_,(by first|exact HFN8.out.low|(have hlw:=HFN8.out.low;simp only[hpb] at hlw;exact hlw))⟩
  rw[←HR.out]
  try first|rfl|(simp[*];done)|(simp_all;done)|(simp_all;omega)|(rw[Bool.eq_iff_iff];simp;done)|(rw[Bool.eq_iff_iff];simp;omega)|(rw[Bool.eq_iff_iff];simp[*];done)|(rw[Bool.eq_iff_iff];simp[*];omega)
theorem and2047 (c:Nat) (hc:c<18446744073709551616):bits .and .u64 (c:Int) 2047=((c % 2048:Nat):Int):=by
 have h:=bits_mask .u64 64 (by decide) wraps_u64 11 (by decide) (c:Int) (by omega) (by omega)
 rw[show((2:Int)^11-1)=2047 by rfl] at h
 rw[h]
 omega
theorem hexU_lt:∀(s:List UInt8) (n m:Nat),hexU s n=some m→n<18446744073709551616→m<18446744073709551616
 | [],n,m,h,hn=>by
  injection h with h
  omega
 |c::r,n,m,h,_=>by
  cases hc:hexA c.toNat with
  |none=>rw[hexU_bad hc] at h;cases h
  |some d=>
   have hn:¬1152921504606846976≤n:=fun hge=>by rw[hexU_far hge] at h;cases h
   rw[hexU_go hc hn] at h
   have:=((hex_byte c).2 d hc).2.2.1
   exact hexU_lt r _ m h (by omega)
def nanB (n:Nat):Bool:= !(n/4503599627370496 % 2048==2047&& !(n % 4503599627370496==0))||n==0x7FF8000000000001
theorem floatB_eq (t:List UInt8):floatBitsB t=(decide (t.length=16)&&match hexW t with
  |none=>false
  |some n=>Lib.toLowerA t==t&&nanB n):=by
 unfold floatBitsB
 by_cases h16:t.length=16
 ·rw[decide_eq_true h16,Bool.true_and,Bool.true_and]
  have hw:hexW t=hexU t 0:=by
   rw[hexW,if_neg]
   intro h
   rw[h] at h16
   cases h16
  rw[hw]
  cases hn:hexNum t 0 with
  |some n=>
   obtain⟨h1,h2⟩:=hexU_of t 0 n hn (by rw[h16];decide)
   rw[h1]
   simp only[h2,beq_self_eq_true,Bool.true_and]
   rfl
  |none=>
   cases hu:hexU t 0 with
   |none=>rfl
   |some n=>
    by_cases hl:Lib.toLowerA t=t
    ·rw[hexNum_of t 0 n hu hl] at hn
     cases hn
    ·simp[hl]
 ·rw[decide_eq_false h16]
  rfl
theorem float_any (t:List UInt8) (hmax:t.length≤4000000000) (w:World) (hG:Gc w):
  Calls Tryz.prog 122 #[.string ⟨⟨t⟩⟩] w fun e w'=>e= .returned (.bool (floatBitsB t))∧Below w.heap.size w w':=by
 have HU:=Lib.hid (hex_outer t hmax w hG)
 obtain⟨F,hF⟩:∃F,floatBitsB t=F:=⟨_,rfl⟩
 rw[hF]
 rw[floatB_eq] at hF
 clear hG
 obtain⟨m,hm⟩:∃m,t.length=m:=⟨_,rfl⟩
 have hsz:(⟨⟨t⟩⟩:ByteArray).size=m:=hm
 by_cases h16:t.length=16
 ·rw[decide_eq_true h16,Bool.true_and] at hF
  obtain rfl:m=16:=by rw[←hm,h16]
  cases hw:hexW t with
  |none=>
   rw[hw] at hF HU
   obtain rfl:F=false:=hF.symm
   clear hF hw
   go_enter Tryz.func122,Tryz.ntmps122
   go_wp2_with (go_at_call 162;refine HU.out.mono ?_;rintro e w1 ⟨hb1,v,te,pe,rfl⟩)
   go_ret
   exact⟨rfl,hb1⟩
  |some n=>
   rw[hw] at hF HU
   have hne:t≠ []:=by intro h;rw[h] at h16;cases h16
   have hu:hexU t 0=some n:=by rw[←hw,hexW,if_neg hne]
   have hasc:=hexU_ascii t 0 n hu
   have hnlt:n<18446744073709551616:=hexU_lt t 0 n hu (by decide)
   have HTL:Hid (∀W,Calls Tryz.prog 163 #[.string ⟨⟨t⟩⟩] W fun e w'=>e= .returned (.string ⟨⟨Lib.toLowerA t⟩⟩)∧Below W.heap.size W w'):=Lib.hid fun W=>Tryz.strings_ToLower_ascii ⟨⟨t⟩⟩ W (by show t.length≤_;omega) (fun j b hj=>(hasc b (List.mem_of_getElem? hj)).1)
   obtain⟨c,r,rfl⟩:∃c r,t=c::r:=List.exists_cons_of_ne_nil hne
   have hc43:=(hasc c (List.mem_cons_self ..)).2
   have hc0:(⟨⟨c::r⟩⟩:ByteArray)[0]? =some c:=rfl
   clear hasc hu hw hne
   obtain⟨L,hL⟩:∃L,Lib.toLowerA (c::r)=L:=⟨_,rfl⟩
   rw[hL] at HTL hF
   have e43:((c.toNat:Int)==43)=false:=by simp;omega
   cases hl:(L==c::r) with
   |false=>
    have hl2:(L !=c::r)=true:=by simp[bne,hl]
    rw[hl] at hF
    obtain rfl:F=false:=hF.symm
    clear hF hL
    go_enter Tryz.func122,Tryz.ntmps122
    go_wp2_with (first
     |(go_at_call 162;refine HU.out.mono ?_;rintro e w1 ⟨hb1,hn,rfl⟩)
     |(go_at_call 163;refine(HTL.out _).mono ?_;rintro e w2 ⟨rfl,hb2⟩))
    go_ret
    exact⟨rfl,hb1.trans (hb2.mono hb1.size)⟩
   |true=>
    have hl2:(L !=c::r)=false:=by simp[bne,hl]
    rw[hl] at hF
    have HF:Hid (nanB n=F):=Lib.hid hF
    have e43':((((⟨⟨c::r⟩⟩:ByteArray)[0]'(by show 0<(c::r).length;simp)).toNat:Int)==43)=false:=e43
    have hnb:n<18446744073709551616:=hnlt
    have f1:bits .and .u64 ((n:Int)/4503599627370496) 2047=((n/4503599627370496 % 2048:Nat):Int):=by
     have:=and2047 (n/4503599627370496) (by omega)
     rw[←this]
     rfl
    have f2:IntKind.u64.wrap ((n:Int)*4096)=((n % 4503599627370496*4096:Nat):Int):=by rw[IntKind.wrap_u64];omega
    clear hF hL
    by_cases hA:n/4503599627370496 % 2048=2047
    ·have e1:bits .and .u64 ((n:Int)/4503599627370496) 2047=2047:=by rw[f1,hA];rfl
     by_cases hB:n % 4503599627370496=0
     ·have e2:IntKind.u64.wrap ((n:Int)*4096)=0:=by rw[f2,hB];rfl
      have HR:Hid (true=F):=Lib.hid (by rw[←HF.out];unfold nanB;simp[hA,hB])
      clear HF f1 f2 hA hB
      go_enter Tryz.func122,Tryz.ntmps122
      go_wp2_with (first
       |(go_at_call 162;refine HU.out.mono ?_;rintro e w1 ⟨hb1,hn,rfl⟩)
       |(go_at_call 163;refine(HTL.out _).mono ?_;rintro e w2 ⟨rfl,hb2⟩))
      go_ret
      exact⟨ret_bool HR.out,hb1.trans (hb2.mono hb1.size)⟩
     ·have e2:¬IntKind.u64.wrap ((n:Int)*4096)=0:=by rw[f2];omega
      have e2':(IntKind.u64.wrap ((n:Int)*4096) !=0)=true:=by simpa using e2
      have HR:Hid (((n:Int)==9221120237041090561)=F):=Lib.hid (by rw[←HF.out];unfold nanB;rw[hA];simp;rw[Bool.eq_iff_iff];simp;omega)
      clear HF f1 f2 hA hB
      go_enter Tryz.func122,Tryz.ntmps122
      go_wp2_with (first
       |(go_at_call 162;refine HU.out.mono ?_;rintro e w1 ⟨hb1,hn,rfl⟩)
       |(go_at_call 163;refine(HTL.out _).mono ?_;rintro e w2 ⟨rfl,hb2⟩))
      go_ret
      exact⟨ret_bool (by rw[←HR.out]),hb1.trans (hb2.mono hb1.size)⟩
    ·have e1:¬bits .and .u64 ((n:Int)/4503599627370496) 2047=2047:=by rw[f1];omega
     have e1':(bits .and .u64 ((n:Int)/4503599627370496) 2047==2047)=false:=by simpa using e1
     have HR:Hid (true=F):=Lib.hid (by rw[←HF.out];unfold nanB;simp[hA])
     clear HF f1 f2 hA
     go_enter Tryz.func122,Tryz.ntmps122
     go_wp2_with (first
      |(go_at_call 162;refine HU.out.mono ?_;rintro e w1 ⟨hb1,hn,rfl⟩)
      |(go_at_call 163;refine(HTL.out _).mono ?_;rintro e w2 ⟨rfl,hb2⟩))
     go_ret
     exact⟨ret_bool (by rw[←HR.out]),hb1.trans (hb2.mono hb1.size)⟩
 ·rw[decide_eq_false h16] at hF
  obtain rfl:F=false:=hF.symm
  have hmn:((m:Int) !=16)=true:=by simp;omega
  have HUA:Hid (Calls Tryz.prog 162 #[.string ⟨⟨t⟩⟩,.int .i64 16,.int .i64 64] w fun e w'=>Below w.heap.size w w'∧∃v x,e= .returned (.tuple #[v,x])):=Lib.hid (HU.out.mono (by
   rintro e w1 ⟨hb1,h⟩
   refine⟨hb1, ?_⟩
   cases hw:hexW t with
   |none=>rw[hw] at h;obtain⟨v,te,pe,rfl⟩:=h;exact⟨_,_,rfl⟩
   |some n=>rw[hw] at h;obtain⟨_,rfl⟩:=h;exact⟨_,_,rfl⟩))
  clear hF HU
  go_enter Tryz.func122,Tryz.ntmps122
  go_wp2_with (go_at_call 162;refine HUA.out.mono ?_;rintro e w1 ⟨hb1,v,x,rfl⟩)
  go_ret
  exact⟨rfl,hb1⟩
def nanR (n:Nat):Bool:=n/4503599627370496 % 2048==2047&& !(n % 4503599627370496==0)
theorem r6_IsNaN (n:Nat) (hn:n<18446744073709551616) (w:World):Calls Tryz.prog 168 #[.int .u64 n] w fun e w'=>e= .returned (.bool (nanR n))∧w'=w:=by
 have f1:bits .and .u64 ((n:Int)/4503599627370496) 2047=((n/4503599627370496 % 2048:Nat):Int):=by
  have:=and2047 (n/4503599627370496) (by omega)
  rw[←this]
  rfl
 have f2:IntKind.u64.wrap ((n:Int)*4096)=((n % 4503599627370496*4096:Nat):Int):=by rw[IntKind.wrap_u64];omega
 have HR:Hid (nanR n=(n/4503599627370496 % 2048==2047&& !(n % 4503599627370496==0))):=Lib.hid rfl
 have HF1:=Lib.hid f1
 have HF2:=Lib.hid f2
 clear f1 f2
 go_enter Tryz.func168,Tryz.ntmps168
 go_wp2
 ·rename_i h
  rw[HF1.out] at h
  go_ret
  refine⟨ret_bool ?_,rfl⟩
  rw[HR.out,show(n/4503599627370496 % 2048==2047)=true by simp;omega,Bool.true_and,HF2.out,Bool.eq_iff_iff]
  simp only[bne_iff_ne,ne_eq,Bool.not_eq_true',beq_eq_false_iff_ne]
  omega
 ·rename_i h
  rw[HF1.out] at h
  go_ret
  refine⟨ret_bool ?_,rfl⟩
  rw[HR.out,show(n/4503599627370496 % 2048==2047)=false by simp;omega,Bool.false_and]
theorem r13_float (t:List UInt8) (w:World) (htl:t.length≤4000000000):Calls Tryz.prog 135 #[.string ⟨⟨t⟩⟩] w fun e w'=>e= .returned (.bool (floatR t))∧w'=w:=by
 obtain⟨R,hR⟩:∃R,floatR t=R:=⟨_,rfl⟩
 rw[hR]
 unfold floatR at hR
 obtain⟨T,hT⟩:∃T:ByteArray,(⟨⟨t⟩⟩:ByteArray)=T:=⟨_,rfl⟩
 have hTt:T.data.toList=t:=by rw[←hT]
 rw[hT]
 obtain⟨L,hL⟩:∃L,T.size=L:=⟨_,rfl⟩
 have hLt:t.length=L:=by rw[←hL,←hTt];simp
 rw[hLt] at hR htl
 have HT:=Lib.hid hTt
 have HLT:=Lib.hid hLt
 have HR:=Lib.hid hR
 clear hT hTt hLt hR
 by_cases h16:L=16
 ·subst h16
  have HR2:Hid ((match hexNum t 0 with
   |none=>false
   |some n=> !(nanR n)||t==[55,102,102,56,48,48,48,48,48,48,48,48,48,48,48,49])=R):=Lib.hid HR.out
  clear HR
  go_enter Tryz.func135,Tryz.ntmps135
  go_wp2_with fail
  go_loopw [3,4] (fun f i wr=>∃j n:Nat,j≤16∧i= .int .i64 j∧f= .int .u64 n∧wr=w∧Hid (n<16^j)∧Hid (hexNum (t.drop j) n=hexNum t 0)) (fun _ i _=>16-(intOf i).toNat)
  case atStart=>exact⟨0,0,by omega,rfl,rfl,rfl,Lib.hid (by decide),rfl⟩
  case round=>
   obtain⟨j,n,hj,rfl,rfl,rfl,HP,HI⟩:=hrel
   by_cases hlt:j<16
   ·obtain⟨d,hd,hix⟩:=getB T j (by omega)
    rw[HT.out] at hd
    have hn15:n<1152921504606846976:=by
     have:=Nat.pow_le_pow_right (n:=16) (by decide) (show j≤15 by omega)
     have:=HP.out
     omega
    have hstep:∀v,hexV d=some v→Hid (hexNum (t.drop (j+1)) (16*n+v)=hexNum t 0)∧Hid (16*n+v<16^(j+1)):=fun v hv=>by
     refine⟨Lib.hid ?_,Lib.hid ?_⟩
     ·rw[←HI.out,hd,hexNum,hv]
     ·have:=hexV_lt hv
      have:=HP.out
      rw[Nat.pow_succ]
      omega
    have hstop:hexV d=none→R=false:=fun hv=>by
     have hr:=HR2.out
     rw[←HI.out,hd,hexNum,hv] at hr
     exact hr.symm
    obtain⟨D,hD⟩:∃D,d.toNat=D:=⟨_,rfl⟩
    have hdl:D<256:=by rw[←hD];exact d.toNat_lt
    unfold hexV at hstep hstop
    rw[hD] at hstep hstop
    have e1:IntKind.u64.wrap (16*(n:Int))=16*(n:Int):=by rw[IntKind.wrap_u64];omega
    clear hd HP HI
    have hixD:∀h,(T[j]'h).toNat=D:=fun h=>by rw[hix];exact hD
    clear hix hD
    by_cases h1:48≤D∧D≤57
    ·obtain⟨h11,h12⟩:=h1
     obtain⟨HI2,HP2⟩:=hstep (D-48) (by rw[if_pos ⟨h11,h12⟩])
     clear hstep hstop
     have e2:IntKind.u8.wrap ((D:Int)-48)=(D:Int)-48:=by rw[IntKind.wrap_u8];omega
     have e3:IntKind.u64.wrap ((D:Int)-48)=(D:Int)-48:=by rw[IntKind.wrap_u64];omega
     have e4:IntKind.u64.wrap (16*(n:Int)+((D:Int)-48))=16*(n:Int)+((D:Int)-48):=by rw[IntKind.wrap_u64];omega
     have b1:decide (48≤(D:Int))=true:=by simp;omega
     have b2:decide ((D:Int)≤57)=true:=by simp;omega
     go_wp2_with fail
     go_roundw
     case rel=>exact⟨j+1,16*n+(D-48),by omega,by simp,by congr 1;omega,trivial,HP2,HI2⟩
     case measure=>simp[intOf];omega
    ·by_cases h2:97≤D∧D≤102
     ·obtain⟨h21,h22⟩:=h2
      obtain⟨HI2,HP2⟩:=hstep (D-87) (by rw[if_neg h1,if_pos ⟨h21,h22⟩])
      clear hstep hstop
      have e2:IntKind.u8.wrap ((D:Int)-97)=(D:Int)-97:=by rw[IntKind.wrap_u8];omega
      have e3:IntKind.u64.wrap ((D:Int)-97)=(D:Int)-97:=by rw[IntKind.wrap_u64];omega
      have e4:IntKind.u64.wrap (16*(n:Int)+((D:Int)-97))=16*(n:Int)+((D:Int)-97):=by rw[IntKind.wrap_u64];omega
      have e5:IntKind.u64.wrap (16*(n:Int)+((D:Int)-97)+10)=16*(n:Int)+((D:Int)-97)+10:=by rw[IntKind.wrap_u64];omega
      have b1:decide (48≤(D:Int))=true:=by simp;omega
      have b2:decide ((D:Int)≤57)=false:=by simp;omega
      have b3:decide (97≤(D:Int))=true:=by simp;omega
      have b4:decide ((D:Int)≤102)=true:=by simp;omega
      go_wp2_with fail
      go_roundw
      case rel=>exact⟨j+1,16*n+(D-87),by omega,by simp,by congr 1;omega,trivial,HP2,HI2⟩
      case measure=>simp[intOf];omega
     ·obtain rfl:=hstop (by rw[if_neg h1,if_neg h2])
      clear hstep HR2
      go_wp2
      all_goals first
       |(exfalso;omega)
       |(go_ret
         exact⟨rfl,rfl⟩)
   ·obtain rfl:j=16:=by omega
    have hh:hexNum t 0=some n:=by
     rw[←HI.out,List.drop_of_length_le (by rw[HLT.out];exact Nat.le_refl _)]
     rfl
    have hr:=HR2.out
    rw[hh] at hr
    have HR3:Hid ((!(nanR n)||t==[55,102,102,56,48,48,48,48,48,48,48,48,48,48,48,49])=R):=Lib.hid hr
    have HN:Hid (n<18446744073709551616):=Lib.hid HP.out
    have hTl:T.toList=t:=by rw[data_toList];exact HT.out
    rw[←hTl] at HR3
    clear hr hh HR2 HI HP hTl
    cases hB:nanR n with
    |true=>
     have HB:=Lib.hid hB
     rw[hB] at HR3
     clear hB
     go_wp2_with (go_at_call 168;refine(r6_IsNaN n HN.out _).mono ?_;rintro e w1 ⟨rfl,rfl⟩;rw[HB.out])
     go_ret
     exact⟨ret_bool (by rw[←HR3.out];simp),rfl⟩
    |false=>
     have HB:=Lib.hid hB
     rw[hB] at HR3
     clear hB
     go_wp2_with (go_at_call 168;refine(r6_IsNaN n HN.out _).mono ?_;rintro e w1 ⟨rfl,rfl⟩;rw[HB.out])
     go_ret
     exact⟨ret_bool (by rw[←HR3.out];simp),rfl⟩
 ·have hr:=HR.out
  rw[decide_eq_false h16,Bool.false_and] at hr
  subst hr
  have b1:((L:Int) !=16)=true:=by simp;omega
  clear HR
  go_enter Tryz.func135,Tryz.ntmps135
  go_wp2_with fail
  go_ret
  exact⟨rfl,rfl⟩
end Go.Proofs.YtagnicbknbmccaaGreatDoor
