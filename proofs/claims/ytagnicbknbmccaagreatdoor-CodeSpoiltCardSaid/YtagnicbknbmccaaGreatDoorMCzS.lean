/- code.fine of any instruction. code.fine of any instruction: fineB. code.Right of any program: what it answers is rightC. lex.Unquote of any text; code.ints of any texts. code.ints of texts that are not numbers. -/
import Derived.Test.YtagnicbknbmccaaGreatDoorMCwV
import Derived.Test.YtagnicbknbmccaaGreatDoorMCxJ
import Derived.Test.YtagnicbknbmccaaGreatDoorCzO
import Derived.Test.YtagnicbknbmccaaGreatDoorCzP
import Derived.Test.YtagnicbknbmccaaGreatDoorMCzQ
import Derived.Test.YtagnicbknbmccaaGreatDoorMCzH
import Derived.Test.YtagnicbknbmccaaGreatDoorMCwU
import Derived.Test.YtagnicbknbmccaaGreatDoorMLex1
import Derived.Test.YtagnicbknbmccaaGreatDoorMScanA
import Derived.Test.YtagnicbknbmccaaGreatDoorMCdD
set_option maxRecDepth 100000
set_option maxHeartbeats 4000000
namespace Go.Proofs.YtagnicbknbmccaaGreatDoor
open Go.RowKit
theorem fine_g2 {p:Cp} {v:Value} {w:World} (hG:Gc w) (hv:LiesC w w.heap.size p v) {f k:Nat} {o:Cf} (ho:p.funcs[f]? =some o) {x:Ci} (hx:o.code[k]? =some x) (hlen:o.code.length≤60000) (hsay:numberedB p f x=true→SaysOk x) (hw:(formOf x.op).word.isEmpty=false) (hat:0≤x.at_∧x.at_≤60000) (en:numberedB p f x=true) (es:saysB x=true) (h26:x.op≠26) (hb:x.b=0) (eg:goesB x.op=true) {j:Nat} {y:Ci} (hta:x.a=(j:Int)) (htj:o.code[j]? =some y) (hlk:j≤k) (hty:y.op=1):
  Calls Tryz.prog 37 #[v,.int .i64 f,.int .i64 k] w fun e w'=>e= .returned (.bool (decide (k+1<o.code.length)||(x.op==50||x.op==34)))∧Below w.heap.size w w':=by
 have Qhw:=Lib.hid hw
 have Qhat:=Lib.hid hat
 have Qh26:=Lib.hid h26
 have Qhb:=Lib.hid hb
 have Qhta:=Lib.hid hta
 have Qhtj:=Lib.hid htj
 have Qhlk:=Lib.hid hlk
 have Qhty:=Lib.hid hty
 clear hw hat h26 hb hta htj hlk hty
 have HV:=Lib.hid hv
 have HGc:=Lib.hid hG
 obtain⟨fa,fc,ga,gc,xs,h1,rfl,h3,h4,h5,h6,h7⟩:=hv
 have hfl:f<p.funcs.length:=(List.getElem?_eq_some_iff.1 ho).1
 have hkl:k<o.code.length:=(List.getElem?_eq_some_iff.1 hx).1
 have hlx:xs.length=p.funcs.length:=by have:=congrArg List.length h1;simpa using this
 obtain⟨y,hy⟩:∃y,xs[f]? =some y:=⟨_,List.getElem?_eq_getElem (by omega)⟩
 have hyo:y.1=o:=by
  have:(xs.map Prod.fst)[f]? =some y.1:=by simp[hy]
  rw[h1,ho] at this
  exact(Option.some.inj this).symm
 obtain⟨o',fv⟩:=y
 obtain rfl:o'=o:=hyo
 obtain⟨g,off,rfl,hg,hc⟩:=h3.at (by rw[flat_len fn_len];omega)
 have c5:=(fn_at hc hy).2.2.2.2.2
 obtain⟨_,hcr,_,_⟩:=h7 _ (List.mem_of_getElem? hy)
 dsimp only at hcr
 obtain⟨ca,co,hca,hcb,hcc⟩:=hcr.at (by rw[flat_len ins_len];omega)
 rw[hca] at c5
 obtain⟨x0,x1,x2,x3,x4⟩:=ins_at hcc hx
 have HCC:=Lib.hid hcc
 have HF:=Lib.hid (forms_call x.op)
 obtain⟨F,hF⟩:∃F,formOf x.op=F:=⟨_,rfl⟩
 rw[hF] at HF
 have HO:=Lib.hid ho
 have HXK:=Lib.hid hx
 have HS:=Lib.hid hsay
 obtain⟨n,hn⟩:∃n,o'.code.length=n:=⟨_,rfl⟩
 have HN:=Lib.hid hn
 obtain⟨m,hm⟩:∃m,p.funcs.length=m:=⟨_,rfl⟩
 rw[hn] at hkl hlen c5⊢
 rw[hm] at hfl h5⊢
 have HFF:=Lib.hid hF
 have HPV:Hid (LiesC w w.heap.size p (.agg #[.slice (some ⟨g,off,none⟩) m fc,.slice ga p.globals.length gc])):=by rw[←hm];exact HV
 clear h1 h3 h4 h6 h7 hc hy ho hx hn hm hsay hF hca hcr hcc hlx hG HV
 obtain⟨R,HR⟩:∃R,Hid ((decide (k+1<n)||(x.op==50||x.op==34))=R):=⟨_,rfl⟩
 rw[HR.out]
 go_enter Tryz.func37,Tryz.ntmps37
 go_upto_region 4 with(go_at_call 44;refine(HF.out _).mono ?_;rintro e w4 ⟨rfl,hb4⟩)
 have hFN:FnAt w (.agg #[.slice (some ⟨g,off,none⟩) m fc,.slice ga p.globals.length gc]) #[.int .i64 x.op,.int .i64 x.a,.int .i64 x.b,.string x.text,.int .i64 x.at_] F w.heap.size (w.heap.size+1) w4.heap.size (w4.alloc (.cells #[.string ⟨⟨F.word⟩⟩,.int .i64 F.a,.int .i64 F.text,.string ⟨⟨F.takes⟩⟩,.string ⟨⟨F.lays⟩⟩] 86 (0,0))):=by
  have hs2:((w.alloc (.cells #[.slice (some ⟨g,off,none⟩) m fc,.slice ga p.globals.length gc] 27 (0,0))).alloc (.cells #[.int .i64 x.op,.int .i64 x.a,.int .i64 x.b,.string x.text,.int .i64 x.at_] 36 (0,0))).heap.size=w.heap.size+2:=by simp
  have hn1:=heap_alloc_new (w.alloc (.cells #[.slice (some ⟨g,off,none⟩) m fc,.slice ga p.globals.length gc] 27 (0,0))) (.cells #[.int .i64 x.op,.int .i64 x.a,.int .i64 x.b,.string x.text,.int .i64 x.at_] 36 (0,0))
  rw[World.size_alloc] at hn1
  have hn0:=(heap_alloc_old (w.alloc (.cells #[.slice (some ⟨g,off,none⟩) m fc,.slice ga p.globals.length gc] 27 (0,0))) (.cells #[.int .i64 x.op,.int .i64 x.a,.int .i64 x.b,.string x.text,.int .i64 x.at_] 36 (0,0)) (show w.heap.size<_ by simp)).trans (heap_alloc_new w _)
  have hB2:Below w.heap.size w ((w.alloc (.cells #[.slice (some ⟨g,off,none⟩) m fc,.slice ga p.globals.length gc] 27 (0,0))).alloc (.cells #[.int .i64 x.op,.int .i64 x.a,.int .i64 x.b,.string x.text,.int .i64 x.at_] 36 (0,0))):=((Below.refl _ _).alloc (Nat.le_refl _) _).alloc (by simp) _
  rw[hs2] at hb4
  have hs4:=hb4.size
  rw[hs2] at hs4
  refine⟨(hB2.trans (hb4.mono (by omega))).alloc (by omega) _,⟨_,rfl,(heap_alloc_old _ _ (by omega)).trans ((hb4.block _ (by omega)).trans hn0)⟩,(heap_alloc_old _ _ (by omega)).trans ((hb4.block _ (by omega)).trans hn1),heap_alloc_new _ _⟩
 obtain⟨pb,hpb⟩:∃pb,w.heap.size=pb:=⟨_,rfl⟩
 obtain⟨fb,hfb⟩:∃fb,w4.heap.size=fb:=⟨_,rfl⟩
 obtain⟨W0,hW0⟩:∃W0,w4.alloc (.cells #[.string ⟨⟨F.word⟩⟩,.int .i64 F.a,.int .i64 F.text,.string ⟨⟨F.takes⟩⟩,.string ⟨⟨F.lays⟩⟩] 86 (0,0))=W0:=⟨_,rfl⟩
 rw[hW0] at hFN
 rw[hW0]
 rw[show FnAt w (.agg #[.slice (some ⟨g,off,none⟩) m fc,.slice ga p.globals.length gc]) #[.int .i64 x.op,.int .i64 x.a,.int .i64 x.b,.string x.text,.int .i64 x.at_] F w.heap.size (w.heap.size+1) w4.heap.size W0=FnAt w (.agg #[.slice (some ⟨g,off,none⟩) m fc,.slice ga p.globals.length gc]) #[.int .i64 x.op,.int .i64 x.a,.int .i64 x.b,.string x.text,.int .i64 x.at_] F pb (pb+1) fb W0 by rw[hpb,hfb]] at hFN
 have HFN:=Lib.hid hFN
 obtain⟨z0,z1,z2,z3,z4⟩:=HFN.out.xc
 obtain⟨p0,p1⟩:=HFN.out.pc
 have f0:=HFN.out.fc
 simp only[hpb,hfb]
 have hwe:(⟨⟨F.word⟩⟩:ByteArray).toList.isEmpty=F.word.isEmpty:=by rw[ByteArray.toList_eq]
 have hw:=Qhw.out
 have hat:=Qhat.out
 have h26:=Qh26.out
 have hb:=Qhb.out
 have hta:=Qhta.out
 have htj:=Qhtj.out
 have hlk:=Qhlk.out
 have hty:=Qhty.out
 have ew:F.word.isEmpty=false:=by rw[←HFF.out];exact hw
 have dA:decide (x.at_<0)=false:=decide_eq_false (by omega)
 have dB:decide (60000<x.at_)=false:=decide_eq_false (by omega)
 have db:(x.b !=0)=false:=by simp[hb]
 have e26:(x.op==26)=false:=by simp[h26]
 have hjn:j<n:=by rw[←HN.out];exact(List.getElem?_eq_some_iff.1 htj).1
 have HV0:=Lib.hid (ins_at HCC.out htj).1
 have dk:decide ((j:Int)≤(k:Int))=true:=by simp;omega
 have e1:(y.op !=1)=false:=by simp[hty]
 clear hFN hW0 hb4 hfb x0 x1 x2 x3 x4 HF
 clear hw hat h26 hb hta htj hlk hty
 go_wp2_with (first
  |(go_at_call 81;refine(numbered_any ((HPV.out.keep fun b hb=>HFN.out.low.block b hb).more HFN.out.low.size) HO.out x).mono ?_;rintro e w6 ⟨rfl,hb6⟩;rw[en];have HFN6:=Lib.hid (HFN.out.under hb6);obtain⟨r0,r1,r2,r3,r4⟩:=HFN6.out.xc;clear hb6)
  |(go_at_call 82;refine(HS.out en _ (HGc.out.up HFN6.out.low)).mono ?_;rintro e w7 ⟨rfl,hb7⟩;rw[es];have HFN7:=Lib.hid (HFN6.out.under hb7);obtain⟨q0,q1,q2,q3,q4⟩:=HFN7.out.xc;clear hb7)
  |(go_at_call 83;refine(goes_any _ _).mono ?_;rintro e w8 ⟨rfl,hb8⟩;rw[eg];have HFN8:=Lib.hid (HFN7.out.under hb8);obtain⟨u0,u1,u2,u3,u4⟩:=HFN8.out.xc;skip;clear hb8;have t0:=(HFN8.out.low.cell (p:=⟨ca,co+j*5,none⟩) hcb).trans HV0.out;rw[Qhta.out] at u1))
 all_goals
  go_ret
  refine⟨ret_bool ?_,(by first|exact HFN8.out.low|(have hlw:=HFN8.out.low;simp only[hpb] at hlw;exact hlw))⟩
  rw[←HR.out]
  try first|rfl|(simp[*];done)|(simp_all;done)|(simp_all;omega)|(rw[Bool.eq_iff_iff];simp;done)|(rw[Bool.eq_iff_iff];simp;omega)|(rw[Bool.eq_iff_iff];simp[*];done)|(rw[Bool.eq_iff_iff];simp[*];omega)
theorem fine_g3 {p:Cp} {v:Value} {w:World} (hG:Gc w) (hv:LiesC w w.heap.size p v) {f k:Nat} {o:Cf} (ho:p.funcs[f]? =some o) {x:Ci} (hx:o.code[k]? =some x) (hlen:o.code.length≤60000) (hsay:numberedB p f x=true→SaysOk x) (hw:(formOf x.op).word.isEmpty=false) (hat:0≤x.at_∧x.at_≤60000) (en:numberedB p f x=true) (es:saysB x=true) (h26:x.op≠26) (hb:x.b=0) (eg:goesB x.op=true) {j:Nat} {y:Ci} (hta:x.a=(j:Int)) (htj:o.code[j]? =some y) (hlk:j≤k) (hty:y.op=2):
  Calls Tryz.prog 37 #[v,.int .i64 f,.int .i64 k] w fun e w'=>e= .returned (.bool (decide (k+1<o.code.length)||(x.op==50||x.op==34)))∧Below w.heap.size w w':=by
 have Qhw:=Lib.hid hw
 have Qhat:=Lib.hid hat
 have Qh26:=Lib.hid h26
 have Qhb:=Lib.hid hb
 have Qhta:=Lib.hid hta
 have Qhtj:=Lib.hid htj
 have Qhlk:=Lib.hid hlk
 have Qhty:=Lib.hid hty
 clear hw hat h26 hb hta htj hlk hty
 have HV:=Lib.hid hv
 have HGc:=Lib.hid hG
 obtain⟨fa,fc,ga,gc,xs,h1,rfl,h3,h4,h5,h6,h7⟩:=hv
 have hfl:f<p.funcs.length:=(List.getElem?_eq_some_iff.1 ho).1
 have hkl:k<o.code.length:=(List.getElem?_eq_some_iff.1 hx).1
 have hlx:xs.length=p.funcs.length:=by have:=congrArg List.length h1;simpa using this
 obtain⟨y,hy⟩:∃y,xs[f]? =some y:=⟨_,List.getElem?_eq_getElem (by omega)⟩
 have hyo:y.1=o:=by
  have:(xs.map Prod.fst)[f]? =some y.1:=by simp[hy]
  rw[h1,ho] at this
  exact(Option.some.inj this).symm
 obtain⟨o',fv⟩:=y
 obtain rfl:o'=o:=hyo
 obtain⟨g,off,rfl,hg,hc⟩:=h3.at (by rw[flat_len fn_len];omega)
 have c5:=(fn_at hc hy).2.2.2.2.2
 obtain⟨_,hcr,_,_⟩:=h7 _ (List.mem_of_getElem? hy)
 dsimp only at hcr
 obtain⟨ca,co,hca,hcb,hcc⟩:=hcr.at (by rw[flat_len ins_len];omega)
 rw[hca] at c5
 obtain⟨x0,x1,x2,x3,x4⟩:=ins_at hcc hx
 have HCC:=Lib.hid hcc
 have HF:=Lib.hid (forms_call x.op)
 obtain⟨F,hF⟩:∃F,formOf x.op=F:=⟨_,rfl⟩
 rw[hF] at HF
 have HO:=Lib.hid ho
 have HXK:=Lib.hid hx
 have HS:=Lib.hid hsay
 obtain⟨n,hn⟩:∃n,o'.code.length=n:=⟨_,rfl⟩
 have HN:=Lib.hid hn
 obtain⟨m,hm⟩:∃m,p.funcs.length=m:=⟨_,rfl⟩
 rw[hn] at hkl hlen c5⊢
 rw[hm] at hfl h5⊢
 have HFF:=Lib.hid hF
 have HPV:Hid (LiesC w w.heap.size p (.agg #[.slice (some ⟨g,off,none⟩) m fc,.slice ga p.globals.length gc])):=by rw[←hm];exact HV
 clear h1 h3 h4 h6 h7 hc hy ho hx hn hm hsay hF hca hcr hcc hlx hG HV
 obtain⟨R,HR⟩:∃R,Hid ((decide (k+1<n)||(x.op==50||x.op==34))=R):=⟨_,rfl⟩
 rw[HR.out]
 go_enter Tryz.func37,Tryz.ntmps37
 go_upto_region 4 with(go_at_call 44;refine(HF.out _).mono ?_;rintro e w4 ⟨rfl,hb4⟩)
 have hFN:FnAt w (.agg #[.slice (some ⟨g,off,none⟩) m fc,.slice ga p.globals.length gc]) #[.int .i64 x.op,.int .i64 x.a,.int .i64 x.b,.string x.text,.int .i64 x.at_] F w.heap.size (w.heap.size+1) w4.heap.size (w4.alloc (.cells #[.string ⟨⟨F.word⟩⟩,.int .i64 F.a,.int .i64 F.text,.string ⟨⟨F.takes⟩⟩,.string ⟨⟨F.lays⟩⟩] 86 (0,0))):=by
  have hs2:((w.alloc (.cells #[.slice (some ⟨g,off,none⟩) m fc,.slice ga p.globals.length gc] 27 (0,0))).alloc (.cells #[.int .i64 x.op,.int .i64 x.a,.int .i64 x.b,.string x.text,.int .i64 x.at_] 36 (0,0))).heap.size=w.heap.size+2:=by simp
  have hn1:=heap_alloc_new (w.alloc (.cells #[.slice (some ⟨g,off,none⟩) m fc,.slice ga p.globals.length gc] 27 (0,0))) (.cells #[.int .i64 x.op,.int .i64 x.a,.int .i64 x.b,.string x.text,.int .i64 x.at_] 36 (0,0))
  rw[World.size_alloc] at hn1
  have hn0:=(heap_alloc_old (w.alloc (.cells #[.slice (some ⟨g,off,none⟩) m fc,.slice ga p.globals.length gc] 27 (0,0))) (.cells #[.int .i64 x.op,.int .i64 x.a,.int .i64 x.b,.string x.text,.int .i64 x.at_] 36 (0,0)) (show w.heap.size<_ by simp)).trans (heap_alloc_new w _)
  have hB2:Below w.heap.size w ((w.alloc (.cells #[.slice (some ⟨g,off,none⟩) m fc,.slice ga p.globals.length gc] 27 (0,0))).alloc (.cells #[.int .i64 x.op,.int .i64 x.a,.int .i64 x.b,.string x.text,.int .i64 x.at_] 36 (0,0))):=((Below.refl _ _).alloc (Nat.le_refl _) _).alloc (by simp) _
  rw[hs2] at hb4
  have hs4:=hb4.size
  rw[hs2] at hs4
  refine⟨(hB2.trans (hb4.mono (by omega))).alloc (by omega) _,⟨_,rfl,(heap_alloc_old _ _ (by omega)).trans ((hb4.block _ (by omega)).trans hn0)⟩,(heap_alloc_old _ _ (by omega)).trans ((hb4.block _ (by omega)).trans hn1),heap_alloc_new _ _⟩
 obtain⟨pb,hpb⟩:∃pb,w.heap.size=pb:=⟨_,rfl⟩
 obtain⟨fb,hfb⟩:∃fb,w4.heap.size=fb:=⟨_,rfl⟩
 obtain⟨W0,hW0⟩:∃W0,w4.alloc (.cells #[.string ⟨⟨F.word⟩⟩,.int .i64 F.a,.int .i64 F.text,.string ⟨⟨F.takes⟩⟩,.string ⟨⟨F.lays⟩⟩] 86 (0,0))=W0:=⟨_,rfl⟩
 rw[hW0] at hFN
 rw[hW0]
 rw[show FnAt w (.agg #[.slice (some ⟨g,off,none⟩) m fc,.slice ga p.globals.length gc]) #[.int .i64 x.op,.int .i64 x.a,.int .i64 x.b,.string x.text,.int .i64 x.at_] F w.heap.size (w.heap.size+1) w4.heap.size W0=FnAt w (.agg #[.slice (some ⟨g,off,none⟩) m fc,.slice ga p.globals.length gc]) #[.int .i64 x.op,.int .i64 x.a,.int .i64 x.b,.string x.text,.int .i64 x.at_] F pb (pb+1) fb W0 by rw[hpb,hfb]] at hFN
 have HFN:=Lib.hid hFN
 obtain⟨z0,z1,z2,z3,z4⟩:=HFN.out.xc
 obtain⟨p0,p1⟩:=HFN.out.pc
 have f0:=HFN.out.fc
 simp only[hpb,hfb]
 have hwe:(⟨⟨F.word⟩⟩:ByteArray).toList.isEmpty=F.word.isEmpty:=by rw[ByteArray.toList_eq]
 have hw:=Qhw.out
 have hat:=Qhat.out
 have h26:=Qh26.out
 have hb:=Qhb.out
 have hta:=Qhta.out
 have htj:=Qhtj.out
 have hlk:=Qhlk.out
 have hty:=Qhty.out
 have ew:F.word.isEmpty=false:=by rw[←HFF.out];exact hw
 have dA:decide (x.at_<0)=false:=decide_eq_false (by omega)
 have dB:decide (60000<x.at_)=false:=decide_eq_false (by omega)
 have db:(x.b !=0)=false:=by simp[hb]
 have e26:(x.op==26)=false:=by simp[h26]
 have hjn:j<n:=by rw[←HN.out];exact(List.getElem?_eq_some_iff.1 htj).1
 have HV0:=Lib.hid (ins_at HCC.out htj).1
 have dk:decide ((j:Int)≤(k:Int))=true:=by simp;omega
 have e1:(y.op !=1)=true:=by simp[hty]
 have e2:(y.op !=2)=false:=by simp[hty]
 clear hFN hW0 hb4 hfb x0 x1 x2 x3 x4 HF
 clear hw hat h26 hb hta htj hlk hty
 go_wp2_with (first
  |(go_at_call 81;refine(numbered_any ((HPV.out.keep fun b hb=>HFN.out.low.block b hb).more HFN.out.low.size) HO.out x).mono ?_;rintro e w6 ⟨rfl,hb6⟩;rw[en];have HFN6:=Lib.hid (HFN.out.under hb6);obtain⟨r0,r1,r2,r3,r4⟩:=HFN6.out.xc;clear hb6)
  |(go_at_call 82;refine(HS.out en _ (HGc.out.up HFN6.out.low)).mono ?_;rintro e w7 ⟨rfl,hb7⟩;rw[es];have HFN7:=Lib.hid (HFN6.out.under hb7);obtain⟨q0,q1,q2,q3,q4⟩:=HFN7.out.xc;clear hb7)
  |(go_at_call 83;refine(goes_any _ _).mono ?_;rintro e w8 ⟨rfl,hb8⟩;rw[eg];have HFN8:=Lib.hid (HFN7.out.under hb8);obtain⟨u0,u1,u2,u3,u4⟩:=HFN8.out.xc;skip;clear hb8;have t0:=(HFN8.out.low.cell (p:=⟨ca,co+j*5,none⟩) hcb).trans HV0.out;rw[Qhta.out] at u1))
 all_goals
  go_ret
  refine⟨ret_bool ?_,(by first|exact HFN8.out.low|(have hlw:=HFN8.out.low;simp only[hpb] at hlw;exact hlw))⟩
  rw[←HR.out]
  try first|rfl|(simp[*];done)|(simp_all;done)|(simp_all;omega)|(rw[Bool.eq_iff_iff];simp;done)|(rw[Bool.eq_iff_iff];simp;omega)|(rw[Bool.eq_iff_iff];simp[*];done)|(rw[Bool.eq_iff_iff];simp[*];omega)
theorem fine_g4 {p:Cp} {v:Value} {w:World} (hG:Gc w) (hv:LiesC w w.heap.size p v) {f k:Nat} {o:Cf} (ho:p.funcs[f]? =some o) {x:Ci} (hx:o.code[k]? =some x) (hlen:o.code.length≤60000) (hsay:numberedB p f x=true→SaysOk x) (hw:(formOf x.op).word.isEmpty=false) (hat:0≤x.at_∧x.at_≤60000) (en:numberedB p f x=true) (es:saysB x=true) (h26:x.op≠26) (hb:x.b=0) (eg:goesB x.op=true) {j:Nat} {y:Ci} (hta:x.a=(j:Int)) (htj:o.code[j]? =some y) (hlk:j≤k) (hty:y.op≠1∧y.op≠2):
  Calls Tryz.prog 37 #[v,.int .i64 f,.int .i64 k] w fun e w'=>e= .returned (.bool false)∧Below w.heap.size w w':=by
 have Qhw:=Lib.hid hw
 have Qhat:=Lib.hid hat
 have Qh26:=Lib.hid h26
 have Qhb:=Lib.hid hb
 have Qhta:=Lib.hid hta
 have Qhtj:=Lib.hid htj
 have Qhlk:=Lib.hid hlk
 have Qhty:=Lib.hid hty
 clear hw hat h26 hb hta htj hlk hty
 have HV:=Lib.hid hv
 have HGc:=Lib.hid hG
 obtain⟨fa,fc,ga,gc,xs,h1,rfl,h3,h4,h5,h6,h7⟩:=hv
 have hfl:f<p.funcs.length:=(List.getElem?_eq_some_iff.1 ho).1
 have hkl:k<o.code.length:=(List.getElem?_eq_some_iff.1 hx).1
 have hlx:xs.length=p.funcs.length:=by have:=congrArg List.length h1;simpa using this
 obtain⟨y,hy⟩:∃y,xs[f]? =some y:=⟨_,List.getElem?_eq_getElem (by omega)⟩
 have hyo:y.1=o:=by
  have:(xs.map Prod.fst)[f]? =some y.1:=by simp[hy]
  rw[h1,ho] at this
  exact(Option.some.inj this).symm
 obtain⟨o',fv⟩:=y
 obtain rfl:o'=o:=hyo
 obtain⟨g,off,rfl,hg,hc⟩:=h3.at (by rw[flat_len fn_len];omega)
 have c5:=(fn_at hc hy).2.2.2.2.2
 obtain⟨_,hcr,_,_⟩:=h7 _ (List.mem_of_getElem? hy)
 dsimp only at hcr
 obtain⟨ca,co,hca,hcb,hcc⟩:=hcr.at (by rw[flat_len ins_len];omega)
 rw[hca] at c5
 obtain⟨x0,x1,x2,x3,x4⟩:=ins_at hcc hx
 have HCC:=Lib.hid hcc
 have HF:=Lib.hid (forms_call x.op)
 obtain⟨F,hF⟩:∃F,formOf x.op=F:=⟨_,rfl⟩
 rw[hF] at HF
 have HO:=Lib.hid ho
 have HXK:=Lib.hid hx
 have HS:=Lib.hid hsay
 obtain⟨n,hn⟩:∃n,o'.code.length=n:=⟨_,rfl⟩
 have HN:=Lib.hid hn
 obtain⟨m,hm⟩:∃m,p.funcs.length=m:=⟨_,rfl⟩
 rw[hn] at hkl hlen c5
 rw[hm] at hfl h5⊢
 have HFF:=Lib.hid hF
 have HPV:Hid (LiesC w w.heap.size p (.agg #[.slice (some ⟨g,off,none⟩) m fc,.slice ga p.globals.length gc])):=by rw[←hm];exact HV
 clear h1 h3 h4 h6 h7 hc hy ho hx hn hm hsay hF hca hcr hcc hlx hG HV
 go_enter Tryz.func37,Tryz.ntmps37
 go_upto_region 4 with(go_at_call 44;refine(HF.out _).mono ?_;rintro e w4 ⟨rfl,hb4⟩)
 have hFN:FnAt w (.agg #[.slice (some ⟨g,off,none⟩) m fc,.slice ga p.globals.length gc]) #[.int .i64 x.op,.int .i64 x.a,.int .i64 x.b,.string x.text,.int .i64 x.at_] F w.heap.size (w.heap.size+1) w4.heap.size (w4.alloc (.cells #[.string ⟨⟨F.word⟩⟩,.int .i64 F.a,.int .i64 F.text,.string ⟨⟨F.takes⟩⟩,.string ⟨⟨F.lays⟩⟩] 86 (0,0))):=by
  have hs2:((w.alloc (.cells #[.slice (some ⟨g,off,none⟩) m fc,.slice ga p.globals.length gc] 27 (0,0))).alloc (.cells #[.int .i64 x.op,.int .i64 x.a,.int .i64 x.b,.string x.text,.int .i64 x.at_] 36 (0,0))).heap.size=w.heap.size+2:=by simp
  have hn1:=heap_alloc_new (w.alloc (.cells #[.slice (some ⟨g,off,none⟩) m fc,.slice ga p.globals.length gc] 27 (0,0))) (.cells #[.int .i64 x.op,.int .i64 x.a,.int .i64 x.b,.string x.text,.int .i64 x.at_] 36 (0,0))
  rw[World.size_alloc] at hn1
  have hn0:=(heap_alloc_old (w.alloc (.cells #[.slice (some ⟨g,off,none⟩) m fc,.slice ga p.globals.length gc] 27 (0,0))) (.cells #[.int .i64 x.op,.int .i64 x.a,.int .i64 x.b,.string x.text,.int .i64 x.at_] 36 (0,0)) (show w.heap.size<_ by simp)).trans (heap_alloc_new w _)
  have hB2:Below w.heap.size w ((w.alloc (.cells #[.slice (some ⟨g,off,none⟩) m fc,.slice ga p.globals.length gc] 27 (0,0))).alloc (.cells #[.int .i64 x.op,.int .i64 x.a,.int .i64 x.b,.string x.text,.int .i64 x.at_] 36 (0,0))):=((Below.refl _ _).alloc (Nat.le_refl _) _).alloc (by simp) _
  rw[hs2] at hb4
  have hs4:=hb4.size
  rw[hs2] at hs4
  refine⟨(hB2.trans (hb4.mono (by omega))).alloc (by omega) _,⟨_,rfl,(heap_alloc_old _ _ (by omega)).trans ((hb4.block _ (by omega)).trans hn0)⟩,(heap_alloc_old _ _ (by omega)).trans ((hb4.block _ (by omega)).trans hn1),heap_alloc_new _ _⟩
 obtain⟨pb,hpb⟩:∃pb,w.heap.size=pb:=⟨_,rfl⟩
 obtain⟨fb,hfb⟩:∃fb,w4.heap.size=fb:=⟨_,rfl⟩
 obtain⟨W0,hW0⟩:∃W0,w4.alloc (.cells #[.string ⟨⟨F.word⟩⟩,.int .i64 F.a,.int .i64 F.text,.string ⟨⟨F.takes⟩⟩,.string ⟨⟨F.lays⟩⟩] 86 (0,0))=W0:=⟨_,rfl⟩
 rw[hW0] at hFN
 rw[hW0]
 rw[show FnAt w (.agg #[.slice (some ⟨g,off,none⟩) m fc,.slice ga p.globals.length gc]) #[.int .i64 x.op,.int .i64 x.a,.int .i64 x.b,.string x.text,.int .i64 x.at_] F w.heap.size (w.heap.size+1) w4.heap.size W0=FnAt w (.agg #[.slice (some ⟨g,off,none⟩) m fc,.slice ga p.globals.length gc]) #[.int .i64 x.op,.int .i64 x.a,.int .i64 x.b,.string x.text,.int .i64 x.at_] F pb (pb+1) fb W0 by rw[hpb,hfb]] at hFN
 have HFN:=Lib.hid hFN
 obtain⟨z0,z1,z2,z3,z4⟩:=HFN.out.xc
 obtain⟨p0,p1⟩:=HFN.out.pc
 have f0:=HFN.out.fc
 simp only[hpb,hfb]
 have hwe:(⟨⟨F.word⟩⟩:ByteArray).toList.isEmpty=F.word.isEmpty:=by rw[ByteArray.toList_eq]
 have hw:=Qhw.out
 have hat:=Qhat.out
 have h26:=Qh26.out
 have hb:=Qhb.out
 have hta:=Qhta.out
 have htj:=Qhtj.out
 have hlk:=Qhlk.out
 have hty:=Qhty.out
 have ew:F.word.isEmpty=false:=by rw[←HFF.out];exact hw
 have dA:decide (x.at_<0)=false:=decide_eq_false (by omega)
 have dB:decide (60000<x.at_)=false:=decide_eq_false (by omega)
 have db:(x.b !=0)=false:=by simp[hb]
 have e26:(x.op==26)=false:=by simp[h26]
 have hjn:j<n:=by rw[←HN.out];exact(List.getElem?_eq_some_iff.1 htj).1
 have HV0:=Lib.hid (ins_at HCC.out htj).1
 have dk:decide ((j:Int)≤(k:Int))=true:=by simp;omega
 have e1:(y.op !=1)=true:=by simp[hty.1]
 have e2:(y.op !=2)=true:=by simp[hty.2]
 clear hFN hW0 hb4 hfb x0 x1 x2 x3 x4 HF
 clear hw hat h26 hb hta htj hlk hty
 go_wp2_with (first
  |(go_at_call 81;refine(numbered_any ((HPV.out.keep fun b hb=>HFN.out.low.block b hb).more HFN.out.low.size) HO.out x).mono ?_;rintro e w6 ⟨rfl,hb6⟩;rw[en];have HFN6:=Lib.hid (HFN.out.under hb6);obtain⟨r0,r1,r2,r3,r4⟩:=HFN6.out.xc;clear hb6)
  |(go_at_call 82;refine(HS.out en _ (HGc.out.up HFN6.out.low)).mono ?_;rintro e w7 ⟨rfl,hb7⟩;rw[es];have HFN7:=Lib.hid (HFN6.out.under hb7);obtain⟨q0,q1,q2,q3,q4⟩:=HFN7.out.xc;clear hb7)
  |(go_at_call 83;refine(goes_any _ _).mono ?_;rintro e w8 ⟨rfl,hb8⟩;rw[eg];have HFN8:=Lib.hid (HFN7.out.under hb8);obtain⟨u0,u1,u2,u3,u4⟩:=HFN8.out.xc;skip;clear hb8;have t0:=(HFN8.out.low.cell (p:=⟨ca,co+j*5,none⟩) hcb).trans HV0.out;rw[Qhta.out] at u1))
 all_goals
  go_ret
  exact⟨ret_bool (by first|rfl|(simp[*];done)|(simp_all;done)|(simp_all;omega)|(rw[Bool.eq_iff_iff];simp;done)|(rw[Bool.eq_iff_iff];simp;omega)|(rw[Bool.eq_iff_iff];simp[*];done)|(rw[Bool.eq_iff_iff];simp[*];omega)),(by first|exact HFN8.out.low|(have hlw:=HFN8.out.low;simp only[hpb] at hlw;exact hlw))⟩
theorem goes_range {p:Cp} {f:Nat} {o:Cf} (ho:p.funcs[f]? =some o) {x:Ci} (hn:numberedB p f x=true) (hg:goesB x.op=true):0≤x.a∧x.a<o.code.length:=by
 rw[numb_eq ho] at hn
 have h10:(formOf x.op).a=10:=by
  have:((formOf x.op).a==10)=true:=hg
  simpa using this
 rw[h10] at hn
 simpa[numbE] using hn
theorem goes26:goesB 26=false:=by kernel_rfl
theorem fine_any {p:Cp} {v:Value} {w:World} (hG:Gc w) (hv:LiesC w w.heap.size p v) {f k:Nat} {o:Cf} (ho:p.funcs[f]? =some o) {x:Ci} (hx:o.code[k]? =some x) (hlen:o.code.length≤60000) (hsay:numberedB p f x=true→SaysOk x):
  Calls Tryz.prog 37 #[v,.int .i64 f,.int .i64 k] w fun e w'=>e= .returned (.bool (fineB p f o.code k x))∧Below w.heap.size w w':=by
 unfold fineB
 cases hw:(formOf x.op).word.isEmpty with
 |true=>exact fine_noword hG hv ho hx hlen hsay hw
 |false=>
 by_cases h0:x.at_<0
 ·rw[decide_eq_false (show¬0≤x.at_ by omega)]
  exact fine_before hG hv ho hx hlen hsay hw h0
 by_cases h1:60000<x.at_
 ·rw[decide_eq_true (show 0≤x.at_ by omega),decide_eq_false (show¬x.at_≤60000 by omega)]
  exact fine_behind hG hv ho hx hlen hsay hw h1
 have hat:0≤x.at_∧x.at_≤60000:=by omega
 rw[decide_eq_true hat.1,decide_eq_true hat.2]
 cases en:numberedB p f x with
 |false=>exact fine_number hG hv ho hx hlen hsay hw hat en
 |true=>
 cases es:saysB x with
 |false=>exact fine_text hG hv ho hx hlen hsay hw hat en es
 |true=>
 simp only[Bool.not_false,Bool.true_and]
 by_cases h26:x.op=26
 ·have eg:goesB x.op=false:=by rw[h26];exact goes26
  have e26:(x.op==26)=true:=by simp[h26]
  rw[eg,e26]
  simp only[Bool.not_false,Bool.true_or,Bool.true_and]
  by_cases hb0:x.b=0
  ·rw[show(x.b==0)=true by simp[hb0]]
   by_cases ha:x.a=2
   ·exact fine_n3 hG hv ho hx hlen hsay hw hat en es h26 hb0 ha eg
   ·exact fine_n2 hG hv ho hx hlen hsay hw hat en es h26 hb0 ha eg
  ·by_cases hb1:x.b=1
   ·rw[show(x.b==1)=true by simp[hb1],Bool.true_or,Bool.or_true]
    exact fine_n4 hG hv ho hx hlen hsay hw hat en es h26 hb1 eg
   ·rw[show(x.b==0)=false by simp[hb0],show(x.b==1)=false by simp[hb1]]
    by_cases ha:x.a=2
    ·rw[show(x.a==2)=true by simp[ha]]
     by_cases hb2:x.b=2
     ·rw[show(x.b==2)=true by simp[hb2]]
      exact fine_n5 hG hv ho hx hlen hsay hw hat en es h26 ha hb2 eg
     ·by_cases hb3:x.b=3
      ·rw[show(x.b==3)=true by simp[hb3],Bool.or_true]
       exact fine_n6 hG hv ho hx hlen hsay hw hat en es h26 ha hb3 eg
      ·rw[show(x.b==2)=false by simp[hb2],show(x.b==3)=false by simp[hb3]]
       exact fine_b3 hG hv ho hx hlen hsay hw hat en es h26 ha ⟨hb0,hb1,hb2,hb3⟩
    ·rw[show(x.a==2)=false by simp[ha]]
     exact fine_b2 hG hv ho hx hlen hsay hw hat en es hb0 h26 hb1 ha
 ·rw[show(x.op==26)=false by simp[h26]]
  by_cases hb:x.b=0
  ·rw[show(x.b==0)=true by simp[hb]]
   cases eg:goesB x.op with
   |false=>exact fine_n1 hG hv ho hx hlen hsay hw hat en es h26 hb eg
   |true=>
    obtain⟨ha0,ha1⟩:=goes_range ho en eg
    by_cases hak:(k:Int)<x.a
    ·rw[decide_eq_true hak]
     exact fine_g1 hG hv ho hx hlen hsay hw hat en es h26 hb eg hak
    ·obtain⟨j,hj⟩:∃j:Nat,x.a=(j:Int):=⟨x.a.toNat,by omega⟩
     obtain⟨y,hy⟩:∃y,o.code[j]? =some y:=⟨_,List.getElem?_eq_getElem (by omega)⟩
     rw[decide_eq_false hak,show x.a.toNat=j by omega,hy]
     by_cases hy1:y.op=1
     ·simp only[hy1]
      exact fine_g2 hG hv ho hx hlen hsay hw hat en es h26 hb eg hj hy (by omega) hy1
     ·by_cases hy2:y.op=2
      ·simp only[hy2]
       exact fine_g3 hG hv ho hx hlen hsay hw hat en es h26 hb eg hj hy (by omega) hy2
      ·have z1:(y.op==1)=false:=by simp[hy1]
       have z2:(y.op==2)=false:=by simp[hy2]
       simp only[z1,z2]
       exact fine_g4 hG hv ho hx hlen hsay hw hat en es h26 hb eg hj hy (by omega) ⟨hy1,hy2⟩
  ·rw[show(x.b==0)=false by simp[hb]]
   exact fine_b1 hG hv ho hx hlen hsay hw hat en es hb h26
theorem PgAt.rise {w W:World} {p:Cp} {n m:Nat} {fa ga:Option Addr} {xs:List (Cf×Fv)} (h:PgAt w p n m fa ga xs) (hb:Below w.heap.size w W):PgAt W p n m fa ga xs:=
 ⟨h.fn,h.gn,h.fs,(h.fr.keep hb.block).more hb.size,(h.gr.keep hb.block).more hb.size,fun x hx=>(h.ls x hx).up hb⟩
theorem PgAt.lies {w:World} {p:Cp} {n m fc gc:Nat} {fa ga:Option Addr} {xs:List (Cf×Fv)} (h:PgAt w p n m fa ga xs) (h1:n≤fc) (h2:m≤gc):LiesC w w.heap.size p (.agg #[.slice fa n fc,.slice ga m gc]):=
 ⟨fa,fc,ga,gc,xs,h.fs,by rw[h.fn,h.gn],h.fr,h.gr,by rw[h.fn];exact h1,by rw[h.gn];exact h2,h.ls⟩
structure Tame (p:Cp):Prop where
 ok:CpOk p
 names:∀f∈p.funcs,f.name.size≤4000000000
 texts:∀f∈p.funcs,∀x∈f.code,x.text.size≤4000000000
 sum:manySum p.funcs≤4000000000000
theorem sum_mem:∀(l:List Cf) (f:Cf),f∈l→(f.code.length:Int)≤manySum l
 |g::r,f,h=>by
  rw[manySum]
  have:=manySum_pos r
  rcases List.mem_cons.1 h with rfl|h
  ·omega
  ·have:=sum_mem r f h;omega
theorem headsFrom_cons (fs:List Cf) (i:Nat) (f:Cf) (r:List Cf) (old:List (List UInt8)):headsFrom fs i (f::r) old=if headedB fs i f old then headsFrom fs (i+1) r (nextOld i f old) else some i:=rfl
theorem fitsFrom_cons (i:Nat) (f:Cf) (r:List Cf):fitsFrom i (f::r)=match fitsP f.code with
  |some k=>some ⟨130,i,some k⟩
  |none=>fitsFrom (i+1) r:=rfl
theorem codesFrom_cons (p:Cp) (i:Nat) (f:Cf) (r:List Cf):codesFrom p i (f::r)=if f.code=[] then some ⟨130,i,none⟩ else match fineFrom p i f.code 0 f.code with
  |some k=>some ⟨130,i,some k⟩
  |none=>codesFrom p (i+1) r:=rfl
theorem fineFrom_cons (p:Cp) (f:Nat) (code:List Ci) (k:Nat) (x:Ci) (r:List Ci):fineFrom p f code k (x::r)=if fineB p f code k x then fineFrom p f code (k+1) r else some k:=rfl
theorem nextOld_len (i:Nat) (f:Cf) (old:List (List UInt8)):(nextOld i f old).length≤old.length+1:=by
 unfold nextOld
 split
 ·simp
 ·omega
theorem round_bd {code:List Ci} {c:Cst} {k:Nat} (hk:k<code.length) (hfit:∀(k:Nat) (x:Ci),code[k]? =some x→FitI code k x) {e:Int} (h:(roundP code c k).1=some e):0≤e∧e≤code.length:=by
 unfold roundP at h
 split at h
 ·rename_i x s hx hs
  split at h
  ·injection h with h;omega
  ·rename_i nx th _
   dsimp only at h
   generalize (if x.op=34∨x.op=50 then(c,true) else handP c (k+1) nx)=h1 at h
   by_cases e1:h1.2=false
   ·rw[if_pos e1] at h
    injection h with h;omega
   ·rw[if_neg e1] at h
    by_cases hg:goesB x.op=true
    ·obtain⟨g1,g2⟩:=(hfit k x hx).goes hg
     rw[if_pos hg] at h
     generalize handP h1.1 x.a.toNat th=h2 at h
     by_cases e2:h2.2=false
     ·rw[if_pos e2] at h
      injection h with h
      omega
     ·rw[if_neg e2] at h
      cases h
    ·rw[if_neg hg,if_neg (by simp)] at h
     cases h
 ·cases h
theorem loop_bd {code:List Ci} (hfit:∀(k:Nat) (x:Ci),code[k]? =some x→FitI code k x) {e:Int}:∀(fu:Nat) (c:Cst),Inv code c→fitsLoop code fu c=some e→0≤e∧e≤code.length
 |0,_,_,h=>by cases h
 |fu+1,c,hI,h=>by
  rw[fitsLoop] at h
  split at h
  ·cases h
  ·rename_i hne
   obtain⟨k,hk,hkl,s,hs⟩:=pop_at hI hne
   split at h
   ·exact loop_bd hfit fu _ (hI.pop hne).1 h
   ·rename_i hsn
    rw[hk] at h hsn
    simp only[Int.toNat_natCast] at h hsn
    have hI2:=((hI.pop hne).1.look (k:=k) hkl (by simpa using hsn)).1
    split at h
    ·rename_i e' c' hr
     injection h with h
     subst h
     exact round_bd hkl hfit (by rw[hr])
    ·rename_i c' hr
     have:=hI2.round hfit k
     simp only at this
     rw[hr] at this
     exact loop_bd hfit fu _ (this rfl).1 h
theorem fits_bd {code:List Ci} (h0:0<code.length) (hfit:∀(k:Nat) (x:Ci),code[k]? =some x→FitI code k x) {e:Int} (h:fitsP code=some e):0≤e∧e≤code.length:=
 loop_bd hfit _ _ (Inv.begin code h0).1 h
theorem numb22 {p:Cp} {f:Nat} {o:Cf} (ho:p.funcs[f]? =some o) {x:Ci} (hn:numberedB p f x=true) (h:(formOf x.op).text=22):0≤x.a∧x.a≤1000000:=by
 have hop:x.op=29:=by
  rcases Decidable.em (1≤x.op∧x.op≤53) with hr|hr
  ·obtain⟨k,hk⟩:=Int.eq_ofNat_of_zero_le (show 0≤x.op by omega)
   have key:∀k:Fin 54,(formOf (k.val:Int)).text=22→k.val=29:=by decide+kernel
   have:=key ⟨k,by omega⟩ (by rw[hk] at h;exact h)
   simp only at this
   omega
  ·rw[formOf,if_neg hr] at h
   cases h
 rw[numb_eq ho,hop,show(formOf 29).a=8 from rfl] at hn
 have:0≤x.a∧x.a<31:=by simpa[numbE] using hn
 omega
theorem Tame.says {p:Cp} (h:Tame p) {f:Nat} {o:Cf} (ho:p.funcs[f]? =some o) {k:Nat} {x:Ci} (hx:o.code[k]? =some x) (hn:numberedB p f x=true):SaysOk x:=
 says_any x ⟨h.texts o (List.mem_of_getElem? ho) x (List.mem_of_getElem? hx),fun h22=>numb22 ho hn h22⟩
theorem fit_counted {code:List Ci} {k:Nat} {x:Ci} (h:FitI code k x):CountedOk x:=by
 by_cases h26:x.op=26
 ·obtain⟨h1,h2⟩:=h.slice h26
  exact counted_slice x h26 (by omega) h2
 ·exact counted_any x h.count h26
theorem codes_fit {p:Cp} (h:codesFrom p 0 p.funcs=none) {i:Nat} {f:Cf} (hf:p.funcs[i]? =some f):0<f.code.length∧(∀(k:Nat) (x:Ci),f.code[k]? =some x→FitI f.code k x)∧∀x∈f.code,CountedOk x:=by
 obtain⟨h1,h2⟩:=codes_at p.funcs 0 h i f hf
 have hfit:∀(k:Nat) (x:Ci),f.code[k]? =some x→FitI f.code k x:=fun k x hx=>by
  have:=fine_at f.code 0 h2 k x hx
  rw[Nat.zero_add,Nat.zero_add] at this
  exact fine_fit hf this
 refine⟨List.length_pos_iff.2 h1,hfit,fun x hx=> ?_⟩
 obtain⟨k,hk⟩:=List.mem_iff_getElem?.1 hx
 exact fit_counted (hfit k x hk)
def UnqPost (w:World) (o:Option (List UInt8)) (e:Ending) (w':World):Prop:=Below w.heap.size w w'∧match o with
 |some t=>e= .returned (.tuple #[.string ⟨⟨t⟩⟩,.nilIface])
 |none=>∃pe,e= .returned (.tuple #[.string ⟨#[]⟩,.iface 42 pe])
theorem lex_wrong (c a:Int) (w:World):Calls Tryz.prog 179 #[.int .i64 c,.int .i64 a] w fun e w'=>∃b,e= .returned (.pointer (some ⟨b,0,none⟩))∧Below w.heap.size w w':=
 (lexWrong_any c a w).mono fun _ _ ⟨he,hw⟩=>⟨_,he,by rw[hw];exact(Below.refl _ _).alloc (Nat.le_refl _) _⟩
theorem unquote_cons (r:List UInt8):unquoteL (34::r)=match litR 0 r 1 [] with
  | .ok (t,next)=>if next<(34::r).length∨65536<t.length then none else some t
  | .bad _ _=>none:=rfl
theorem unquote_any (l:List UInt8) (w:World) (hlen:l.length≤1000000000):Calls Tryz.prog 152 #[.string ⟨⟨l⟩⟩] w (UnqPost w (unquoteL l)):=by
 obtain⟨R,HR⟩:∃R,Hid (unquoteL l=R):=⟨_,rfl⟩
 rw[HR.out]
 have HPF:=Lib.hid (Tryz.strings_HasPrefix ⟨⟨l⟩⟩ ⟨#[34]⟩)
 obtain⟨n,hn⟩:∃n,l.length=n:=⟨_,rfl⟩
 have HN:=Lib.hid hn
 have hsz:(⟨⟨l⟩⟩:ByteArray).size=n:=hn
 by_cases hp:∃r,l=34::r
 ·obtain⟨r,hr⟩:=hp
  have HL:Hid (Lib.hasPrefix (⟨⟨l⟩⟩:ByteArray).data.toList (⟨#[34]⟩:ByteArray).data.toList=true):=Lib.hid (by rw[hr];rfl)
  have hlit:=fun W=>literal_any l 0 W (by rw[hr];simp) hlen
  have hd:l.drop (0+1)=r:=by rw[hr];rfl
  simp only[hd] at hlit
  have HLT:=Lib.hid hlit
  have HR2:=HR.out
  rw[hr,unquote_cons] at HR2
  clear hlit hd
  rw[hn] at hlen
  cases hq:litR 0 r 1 [] with
  |bad c a=>
   rw[hq] at HR2 HLT
   have hR:R=none:=HR2.symm
   subst hR
   clear HR2 hq hr hn
   go_enter Tryz.func152,Tryz.ntmps152
   go_wp2_with (first
    |(go_at_call 109;refine(HPF.out _).mono ?_;rintro e w1 ⟨rfl,rfl⟩;rw[HL.out])
    |(go_at_call 180;refine(HLT.out _).mono ?_;rintro e w2 ⟨hb2,h2⟩;obtain⟨b,rfl⟩:∃b,e= .returned (.tuple #[.string ⟨#[]⟩,.int .i64 0,.pointer (some ⟨b,0,none⟩)]):=(by rcases h2 with⟨_,_,h,_⟩|⟨_,_,b,_,h,_⟩;cases h;exact⟨b,h⟩);have HB2:=Lib.hid hb2;clear hb2 h2))
   go_ret2
   exact⟨HB2.out,_,rfl⟩
  |ok x=>
   obtain⟨t,next⟩:=x
   rw[hq] at HR2 HLT
   dsimp only at HR2
   rw[←hr,hn] at HR2
   have HLT2:Hid (∀W,Calls Tryz.prog 180 #[.string ⟨⟨l⟩⟩,.int .i64 0] W fun e w'=>e= .returned (.tuple #[.string ⟨⟨t⟩⟩,.int .i64 next,.pointer none])∧Below W.heap.size W w'):=Lib.hid fun W=>(HLT.out W).mono fun e w' ⟨hb,h⟩=>by
    rcases h with⟨o,nx,h,he⟩|⟨_,_,_,h,_⟩
    ·injection h with h
     injection h with h1 h2
     subst h1 h2
     exact⟨he,hb⟩
    ·cases h
   have HR3:=Lib.hid HR2
   clear HR2 hq hr HLT hn
   by_cases h1:next<n
   ·have hR:R=none:=by rw[←HR3.out,if_pos (.inl h1)]
    subst hR
    have d1:decide (next<n)=true:=decide_eq_true h1
    go_enter Tryz.func152,Tryz.ntmps152
    go_wp2_with (first
     |(go_at_call 109;refine(HPF.out _).mono ?_;rintro e w1 ⟨rfl,rfl⟩;rw[HL.out])
     |(go_at_call 180;refine(HLT2.out _).mono ?_;rintro e w2 ⟨rfl,hb2⟩;have HB2:=Lib.hid hb2;clear hb2)
     |(go_at_call 179;refine(lex_wrong _ _ _).mono ?_;rintro e w3 ⟨b,rfl,hb3⟩;have HB3:=Lib.hid (HB2.out.trans (hb3.mono HB2.out.size));clear hb3))
    go_ret2
    exact⟨HB3.out,_,rfl⟩
   ·have d1:decide (next<n)=false:=decide_eq_false h1
    obtain⟨tl,htl⟩:∃tl,t.length=tl:=⟨_,rfl⟩
    have hts:(⟨⟨t⟩⟩:ByteArray).size=tl:=htl
    rw[htl] at HR3
    by_cases h2:65536<tl
    ·have hR:R=none:=by rw[←HR3.out,if_pos (.inr h2)]
     subst hR
     have d2:decide (65536<(tl:Int))=true:=by simp;omega
     clear htl
     go_enter Tryz.func152,Tryz.ntmps152
     go_wp2_with (first
      |(go_at_call 109;refine(HPF.out _).mono ?_;rintro e w1 ⟨rfl,rfl⟩;rw[HL.out])
      |(go_at_call 180;refine(HLT2.out _).mono ?_;rintro e w2 ⟨rfl,hb2⟩;have HB2:=Lib.hid hb2;clear hb2)
      |(go_at_call 179;refine(lex_wrong _ _ _).mono ?_;rintro e w3 ⟨b,rfl,hb3⟩;have HB3:=Lib.hid (HB2.out.trans (hb3.mono HB2.out.size));clear hb3))
     go_ret2
     exact⟨HB3.out,_,rfl⟩
    ·have hR:R=some t:=by rw[←HR3.out,if_neg (by omega)]
     subst hR
     have d2:decide (65536<(tl:Int))=false:=by simp;omega
     clear htl
     go_enter Tryz.func152,Tryz.ntmps152
     go_wp2_with (first
      |(go_at_call 109;refine(HPF.out _).mono ?_;rintro e w1 ⟨rfl,rfl⟩;rw[HL.out])
      |(go_at_call 180;refine(HLT2.out _).mono ?_;rintro e w2 ⟨rfl,hb2⟩;have HB2:=Lib.hid hb2;clear hb2))
     go_ret2
     exact⟨HB2.out,rfl⟩
 ·have hR:R=none:=by
   rw[←HR.out]
   unfold unquoteL
   split
   ·exact absurd ⟨_,rfl⟩ hp
   ·rfl
  subst hR
  have HL:Hid (Lib.hasPrefix (⟨⟨l⟩⟩:ByteArray).data.toList (⟨#[34]⟩:ByteArray).data.toList=false):=Lib.hid (by
   show Lib.hasPrefix l [34]=false
   cases l with
   |nil=>rfl
   |cons c r=>
    have:¬(34=c):=fun e=>hp ⟨r,by rw[e]⟩
    simp[Lib.hasPrefix,List.isPrefixOf,this])
  clear hp hn
  go_enter Tryz.func152,Tryz.ntmps152
  go_wp2_with (first
   |(go_at_call 109;refine(HPF.out _).mono ?_;rintro e w1 ⟨rfl,rfl⟩;rw[HL.out])
   |(go_at_call 179;refine(lex_wrong _ _ _).mono ?_;rintro e w3 ⟨b,rfl,hb3⟩;have HB3:=Lib.hid hb3;clear hb3))
  go_ret2
  exact⟨HB3.out,_,rfl⟩
theorem ints_none {w:World} (hG:Gc w) {A:Option Addr} {l:List (List UInt8)} {c m:Nat} (hm:l.length=m) (h:RowIs w w.heap.size A (l.map fun s=>Value.string ⟨⟨s⟩⟩)) (hn:intsL l=none) (hlen:∀s∈l,s.length≤140737488351232) (hmb:m≤1000000000):
  Calls Tryz.prog 150 #[.slice A m c] w fun e w'=>e= .returned (.tuple #[.slice none 0 0,.bool false])∧Below w.heap.size w w':=by
 obtain⟨i0,hi,hz0,hz1,hz2⟩:=info_parts intInfo
 have HG:=Lib.hid hG
 have HA:=Lib.hid h
 have HM:=Lib.hid hm
 have HL:=Lib.hid hlen
 have HN:Hid (intsL (l.drop 0)=none):=Lib.hid hn
 clear hG h hm hlen hn
 go_enter Tryz.func150,Tryz.ntmps150
 go_wp2_with fail
 go_loopw [4,11] (fun v i wr=>∃(j:Nat) (acc:List Int),i= .int .i64 j∧j≤m∧acc.length=j∧Hid (wr.ownsRow w.heap.size 3 1 v acc.length (acc.map (Value.int .i64)))∧Hid (Below w.heap.size w wr)∧Hid (intsL (l.drop j)=none)) (fun _ i _=>m-(intOf i).toNat)
 case atStart=>exact⟨0,[],rfl,Nat.zero_le _,rfl,Lib.hid (World.ownsRow_nil _ _ _ _),Lib.hid (Below.refl _ _),HN⟩
 case round=>
  clear HN
  obtain⟨j,acc,rfl,hj,hacc,HO,HB,HN⟩:=hrel
  by_cases hlt:j<m
  ·obtain⟨x,hx⟩:∃x,l[j]? =some x:=⟨_,List.getElem?_eq_getElem (by rw[HM.out];exact hlt)⟩
   obtain⟨g,o,rfl,hg,hc⟩:=HA.out.at (by rw[List.length_map,HM.out];omega)
   have c0:=old_cell0 (hc j (.string ⟨⟨x⟩⟩) (by simp[hx])) HB.out
   have hxl:=HL.out x (List.mem_of_getElem? hx)
   have hN2:=HN.out
   rw[drop_cons hx] at hN2
   cases hin:intOfL x with
   |none=>
    have HI:Hid ((intOfL (⟨⟨x⟩⟩:ByteArray).data.toList).isSome=false):=Lib.hid (by show(intOfL x).isSome=false;rw[hin];rfl)
    have HXL:Hid ((⟨⟨x⟩⟩:ByteArray).size≤140737488351232):=Lib.hid hxl
    have hdig:∀W,Below w.heap.size w W→Calls Tryz.prog 121 #[.string ⟨⟨x⟩⟩] W fun e w'=>e= .returned (.bool false)∧Below W.heap.size W w':=fun W hb=>by
     have:=digits_any (HG.out.up hb) ⟨⟨x⟩⟩ (Nat.le_trans HXL.out (by decide))
     rw[HI.out] at this
     exact this
    have HD:=Lib.hid hdig
    clear hx hg hc hin hdig hxl hN2
    go_wp2_with (go_at_call 121;refine(HD.out _ HB.out).mono ?_;rintro e w1 ⟨rfl,hb1⟩;have HB1:=Lib.hid (HB.out.trans (hb1.mono HB.out.size));clear hb1)
    go_ret2
    exact⟨rfl,HB1.out⟩
   |some n=>
   have hrs:intsL (l.drop (j+1))=none:=by
    rw[intsL,hin] at hN2
    cases h2:intsL (l.drop (j+1)) with
    |none=>rfl
    |some l2=>rw[h2] at hN2;cases hN2
   have hpo:=intOf_parse hin
   have hok:=parseI_ok hpo
   have HP:Hid (Lib.atoiAll (⟨⟨x⟩⟩:ByteArray).data.toList= .ok n):=Lib.hid (by rw[←Lib.parseIntB_64];exact hpo)
   have HI:Hid ((intOfL (⟨⟨x⟩⟩:ByteArray).data.toList).isSome=true):=Lib.hid (by show(intOfL x).isSome=true;rw[hin];rfl)
   have HXL:Hid ((⟨⟨x⟩⟩:ByteArray).size≤140737488351232):=Lib.hid hxl
   have HN2:Hid (intsL (l.drop (j+1))=none):=Lib.hid hrs
   have hdig:∀W,Below w.heap.size w W→Calls Tryz.prog 121 #[.string ⟨⟨x⟩⟩] W fun e w'=>e= .returned (.bool true)∧Below W.heap.size W w':=fun W hb=>by
    have:=digits_any (HG.out.up hb) ⟨⟨x⟩⟩ (Nat.le_trans HXL.out (by decide))
    rw[HI.out] at this
    exact this
   have HD:=Lib.hid hdig
   have hat:∀W,Below wr.heap.size wr W→W.ownsRow w.heap.size 3 1 u4 acc.length (acc.map (Value.int .i64))∧Below w.heap.size w W:=fun W hb=>⟨own_up HO.out hb,HB.out.trans (hb.mono HB.out.size)⟩
   have HAT:=Lib.hid hat
   clear hx hg hc hin hrs hpo hok hdig hxl hat hN2
   go_wp2_with (first
    |(go_at_call 121;refine(HD.out _ HB.out).mono ?_;rintro e w1 ⟨rfl,hb1⟩)
    |(go_at_call 178;refine(Tryz.strconv_Atoi_ok _ (Nat.le_trans HXL.out (by decide)) n HP.out _).mono ?_;rintro e w2 ⟨rfl,hw2⟩;have hb2:=hb1.trans ((atoi_low hw2).mono hb1.size);clear hw2;obtain⟨ho2,hl2⟩:=HAT.out _ hb2)
    |(at_builtin;refine wpList_append_lies _ rfl _ _ 22 rfl w.heap.size 3 i0 _ 1 8 Tryz.underlying22 hi hz0 hz1 hz2 rfl (by decide) u4 acc.length (acc.map (Value.int .i64)) rfl (ho2.alloc _) ⟨w2.heap.size,0,none⟩ 1 1 [.int .i64 n] rfl rfl (new_cells w2 [.int .i64 n] _ _) (by simp[Value.oneCell']) (by decide) (by unfold maxLen;omega) (by omega) (by have:=hl2.size;rw[World.size_alloc];omega) _ rfl ?_;intro g1 cap1 w3 ho3 hg3 hat3 hlt3))
   have hb3:Below w.heap.size w w3:=grown_below (hl2.alloc hl2.size _) (ho2.alloc _) (by have:=hl2.size;rw[World.size_alloc];omega) hg3
   go_wp2_with fail
   go_roundw
   case rel=>exact⟨j+1,acc++ [n],by simp,by omega,by simp[hacc],Lib.hid (by subst hacc;simpa using ho3),Lib.hid hb3,HN2⟩
   case measure=>simp[intOf];omega
  ·obtain rfl:j=m:=by omega
   have:=HN.out
   rw[List.drop_of_length_le (by rw[HM.out];exact Nat.le_refl _)] at this
   cases this
end Go.Proofs.YtagnicbknbmccaaGreatDoor
