/- code.fine of any instruction. -/
import Derived.Test.YtagnicbknbmccaaGreatDoorMCwV
import Derived.Test.YtagnicbknbmccaaGreatDoorMCxJ
set_option maxRecDepth 100000
set_option maxHeartbeats 4000000
namespace Go.Proofs.YtagnicbknbmccaaGreatDoor
open Go.RowKit
theorem fine_b1 {p:Cp} {v:Value} {w:World} (hG:Gc w) (hv:LiesC w w.heap.size p v) {f k:Nat} {o:Cf} (ho:p.funcs[f]? =some o) {x:Ci} (hx:o.code[k]? =some x) (hlen:o.code.length≤60000) (hsay:numberedB p f x=true→SaysOk x) (hw:(formOf x.op).word.isEmpty=false) (hat:0≤x.at_∧x.at_≤60000) (en:numberedB p f x=true) (es:saysB x=true) (hb:x.b≠0) (h26:x.op≠26):
  Calls Tryz.prog 37 #[v,.int .i64 f,.int .i64 k] w fun e w'=>e= .returned (.bool false)∧Below w.heap.size w w':=by
 have Qhw:=Lib.hid hw
 have Qhat:=Lib.hid hat
 have Qhb:=Lib.hid hb
 have Qh26:=Lib.hid h26
 clear hw hat hb h26
 have HV:=Lib.hid hv
 have HGc:=Lib.hid hG
 obtain⟨fa,fc,ga,gc,xs,h1,rfl,h3,h4,h5,h6,h7⟩:=hv
 have hfl:f<p.funcs.length:=(List.getElem?_eq_some_iff.1 ho).1
 have hkl:k<o.code.length:=(List.getElem?_eq_some_iff.1 hx).1
 have hlx:xs.length=p.funcs.length:=by have:=congrArg List.length h1;simpa using this
 obtain⟨y,hy⟩:∃y,xs[f]? =some y:=⟨_,List.getElem?_eq_getElem (by omega)⟩
 have hyo:y.1=o:=by
  have:(xs.map Prod.fst)[f]? =some y.1:=by simp[hy]
  rw[h1,ho] at this
  exact(Option.some.inj this).symm
 obtain⟨o',fv⟩:=y
 obtain rfl:o'=o:=hyo
 obtain⟨g,off,rfl,hg,hc⟩:=h3.at (by rw[flat_len fn_len];omega)
 have c5:=(fn_at hc hy).2.2.2.2.2
 obtain⟨_,hcr,_,_⟩:=h7 _ (List.mem_of_getElem? hy)
 dsimp only at hcr
 obtain⟨ca,co,hca,hcb,hcc⟩:=hcr.at (by rw[flat_len ins_len];omega)
 rw[hca] at c5
 obtain⟨x0,x1,x2,x3,x4⟩:=ins_at hcc hx
 have HCC:=Lib.hid hcc
 have HF:=Lib.hid (forms_call x.op)
 obtain⟨F,hF⟩:∃F,formOf x.op=F:=⟨_,rfl⟩
 rw[hF] at HF
 have HO:=Lib.hid ho
 have HXK:=Lib.hid hx
 have HS:=Lib.hid hsay
 obtain⟨n,hn⟩:∃n,o'.code.length=n:=⟨_,rfl⟩
 have HN:=Lib.hid hn
 obtain⟨m,hm⟩:∃m,p.funcs.length=m:=⟨_,rfl⟩
 rw[hn] at hkl hlen c5
 rw[hm] at hfl h5⊢
 have HFF:=Lib.hid hF
 have HPV:Hid (LiesC w w.heap.size p (.agg #[.slice (some ⟨g,off,none⟩) m fc,.slice ga p.globals.length gc])):=by rw[←hm];exact HV
 clear h1 h3 h4 h6 h7 hc hy ho hx hn hm hsay hF hca hcr hcc hlx hG HV
 go_enter Tryz.func37,Tryz.ntmps37
 go_upto_region 4 with(go_at_call 44;refine(HF.out _).mono ?_;rintro e w4 ⟨rfl,hb4⟩)
 have hFN:FnAt w (.agg #[.slice (some ⟨g,off,none⟩) m fc,.slice ga p.globals.length gc]) #[.int .i64 x.op,.int .i64 x.a,.int .i64 x.b,.string x.text,.int .i64 x.at_] F w.heap.size (w.heap.size+1) w4.heap.size (w4.alloc (.cells #[.string ⟨⟨F.word⟩⟩,.int .i64 F.a,.int .i64 F.text,.string ⟨⟨F.takes⟩⟩,.string ⟨⟨F.lays⟩⟩] 86 (0,0))):=by
  have hs2:((w.alloc (.cells #[.slice (some ⟨g,off,none⟩) m fc,.slice ga p.globals.length gc] 27 (0,0))).alloc (.cells #[.int .i64 x.op,.int .i64 x.a,.int .i64 x.b,.string x.text,.int .i64 x.at_] 36 (0,0))).heap.size=w.heap.size+2:=by simp
  have hn1:=heap_alloc_new (w.alloc (.cells #[.slice (some ⟨g,off,none⟩) m fc,.slice ga p.globals.length gc] 27 (0,0))) (.cells #[.int .i64 x.op,.int .i64 x.a,.int .i64 x.b,.string x.text,.int .i64 x.at_] 36 (0,0))
  rw[World.size_alloc] at hn1
  have hn0:=(heap_alloc_old (w.alloc (.cells #[.slice (some ⟨g,off,none⟩) m fc,.slice ga p.globals.length gc] 27 (0,0))) (.cells #[.int .i64 x.op,.int .i64 x.a,.int .i64 x.b,.string x.text,.int .i64 x.at_] 36 (0,0)) (show w.heap.size<_ by simp)).trans (heap_alloc_new w _)
  have hB2:Below w.heap.size w ((w.alloc (.cells #[.slice (some ⟨g,off,none⟩) m fc,.slice ga p.globals.length gc] 27 (0,0))).alloc (.cells #[.int .i64 x.op,.int .i64 x.a,.int .i64 x.b,.string x.text,.int .i64 x.at_] 36 (0,0))):=((Below.refl _ _).alloc (Nat.le_refl _) _).alloc (by simp) _
  rw[hs2] at hb4
  have hs4:=hb4.size
  rw[hs2] at hs4
  refine⟨(hB2.trans (hb4.mono (by omega))).alloc (by omega) _,⟨_,rfl,(heap_alloc_old _ _ (by omega)).trans ((hb4.block _ (by omega)).trans hn0)⟩,(heap_alloc_old _ _ (by omega)).trans ((hb4.block _ (by omega)).trans hn1),heap_alloc_new _ _⟩
 obtain⟨pb,hpb⟩:∃pb,w.heap.size=pb:=⟨_,rfl⟩
 obtain⟨fb,hfb⟩:∃fb,w4.heap.size=fb:=⟨_,rfl⟩
 obtain⟨W0,hW0⟩:∃W0,w4.alloc (.cells #[.string ⟨⟨F.word⟩⟩,.int .i64 F.a,.int .i64 F.text,.string ⟨⟨F.takes⟩⟩,.string ⟨⟨F.lays⟩⟩] 86 (0,0))=W0:=⟨_,rfl⟩
 rw[hW0] at hFN
 rw[hW0]
 rw[show FnAt w (.agg #[.slice (some ⟨g,off,none⟩) m fc,.slice ga p.globals.length gc]) #[.int .i64 x.op,.int .i64 x.a,.int .i64 x.b,.string x.text,.int .i64 x.at_] F w.heap.size (w.heap.size+1) w4.heap.size W0=FnAt w (.agg #[.slice (some ⟨g,off,none⟩) m fc,.slice ga p.globals.length gc]) #[.int .i64 x.op,.int .i64 x.a,.int .i64 x.b,.string x.text,.int .i64 x.at_] F pb (pb+1) fb W0 by rw[hpb,hfb]] at hFN
 have HFN:=Lib.hid hFN
 obtain⟨z0,z1,z2,z3,z4⟩:=HFN.out.xc
 obtain⟨p0,p1⟩:=HFN.out.pc
 have f0:=HFN.out.fc
 simp only[hpb,hfb]
 have hwe:(⟨⟨F.word⟩⟩:ByteArray).toList.isEmpty=F.word.isEmpty:=by rw[ByteArray.toList_eq]
 have hw:=Qhw.out
 have hat:=Qhat.out
 have hb:=Qhb.out
 have h26:=Qh26.out
 have ew:F.word.isEmpty=false:=by rw[←HFF.out];exact hw
 have dA:decide (x.at_<0)=false:=decide_eq_false (by omega)
 have dB:decide (60000<x.at_)=false:=decide_eq_false (by omega)
 have e26:(x.op==26)=false:=by simp[h26]
 have db:(x.b !=0)=true:=by simp[hb]
 clear hFN hW0 hb4 hfb x0 x1 x2 x3 x4 HF
 clear hw hat hb h26
 go_wp2_with (first
  |(go_at_call 81;refine(numbered_any ((HPV.out.keep fun b hb=>HFN.out.low.block b hb).more HFN.out.low.size) HO.out x).mono ?_;rintro e w6 ⟨rfl,hb6⟩;rw[en];have HFN6:=Lib.hid (HFN.out.under hb6);obtain⟨r0,r1,r2,r3,r4⟩:=HFN6.out.xc;clear hb6)
  |(go_at_call 82;refine(HS.out en _ (HGc.out.up HFN6.out.low)).mono ?_;rintro e w7 ⟨rfl,hb7⟩;rw[es];have HFN7:=Lib.hid (HFN6.out.under hb7);obtain⟨q0,q1,q2,q3,q4⟩:=HFN7.out.xc;clear hb7))
 all_goals
  go_ret
  exact⟨ret_bool (by first|rfl|(simp[*];done)|(simp_all;done)|(simp_all;omega)|(rw[Bool.eq_iff_iff];simp;done)|(rw[Bool.eq_iff_iff];simp;omega)|(rw[Bool.eq_iff_iff];simp[*];done)|(rw[Bool.eq_iff_iff];simp[*];omega)),(by first|exact HFN7.out.low|(have hlw:=HFN7.out.low;simp only[hpb] at hlw;exact hlw))⟩
theorem fine_b2 {p:Cp} {v:Value} {w:World} (hG:Gc w) (hv:LiesC w w.heap.size p v) {f k:Nat} {o:Cf} (ho:p.funcs[f]? =some o) {x:Ci} (hx:o.code[k]? =some x) (hlen:o.code.length≤60000) (hsay:numberedB p f x=true→SaysOk x) (hw:(formOf x.op).word.isEmpty=false) (hat:0≤x.at_∧x.at_≤60000) (en:numberedB p f x=true) (es:saysB x=true) (hb:x.b≠0) (h26:x.op=26) (hb1:x.b≠1) (ha:x.a≠2):
  Calls Tryz.prog 37 #[v,.int .i64 f,.int .i64 k] w fun e w'=>e= .returned (.bool false)∧Below w.heap.size w w':=by
 have Qhw:=Lib.hid hw
 have Qhat:=Lib.hid hat
 have Qhb:=Lib.hid hb
 have Qh26:=Lib.hid h26
 have Qhb1:=Lib.hid hb1
 have Qha:=Lib.hid ha
 clear hw hat hb h26 hb1 ha
 have HV:=Lib.hid hv
 have HGc:=Lib.hid hG
 obtain⟨fa,fc,ga,gc,xs,h1,rfl,h3,h4,h5,h6,h7⟩:=hv
 have hfl:f<p.funcs.length:=(List.getElem?_eq_some_iff.1 ho).1
 have hkl:k<o.code.length:=(List.getElem?_eq_some_iff.1 hx).1
 have hlx:xs.length=p.funcs.length:=by have:=congrArg List.length h1;simpa using this
 obtain⟨y,hy⟩:∃y,xs[f]? =some y:=⟨_,List.getElem?_eq_getElem (by omega)⟩
 have hyo:y.1=o:=by
  have:(xs.map Prod.fst)[f]? =some y.1:=by simp[hy]
  rw[h1,ho] at this
  exact(Option.some.inj this).symm
 obtain⟨o',fv⟩:=y
 obtain rfl:o'=o:=hyo
 obtain⟨g,off,rfl,hg,hc⟩:=h3.at (by rw[flat_len fn_len];omega)
 have c5:=(fn_at hc hy).2.2.2.2.2
 obtain⟨_,hcr,_,_⟩:=h7 _ (List.mem_of_getElem? hy)
 dsimp only at hcr
 obtain⟨ca,co,hca,hcb,hcc⟩:=hcr.at (by rw[flat_len ins_len];omega)
 rw[hca] at c5
 obtain⟨x0,x1,x2,x3,x4⟩:=ins_at hcc hx
 have HCC:=Lib.hid hcc
 have HF:=Lib.hid (forms_call x.op)
 obtain⟨F,hF⟩:∃F,formOf x.op=F:=⟨_,rfl⟩
 rw[hF] at HF
 have HO:=Lib.hid ho
 have HXK:=Lib.hid hx
 have HS:=Lib.hid hsay
 obtain⟨n,hn⟩:∃n,o'.code.length=n:=⟨_,rfl⟩
 have HN:=Lib.hid hn
 obtain⟨m,hm⟩:∃m,p.funcs.length=m:=⟨_,rfl⟩
 rw[hn] at hkl hlen c5
 rw[hm] at hfl h5⊢
 have HFF:=Lib.hid hF
 have HPV:Hid (LiesC w w.heap.size p (.agg #[.slice (some ⟨g,off,none⟩) m fc,.slice ga p.globals.length gc])):=by rw[←hm];exact HV
 clear h1 h3 h4 h6 h7 hc hy ho hx hn hm hsay hF hca hcr hcc hlx hG HV
 go_enter Tryz.func37,Tryz.ntmps37
 go_upto_region 4 with(go_at_call 44;refine(HF.out _).mono ?_;rintro e w4 ⟨rfl,hb4⟩)
 have hFN:FnAt w (.agg #[.slice (some ⟨g,off,none⟩) m fc,.slice ga p.globals.length gc]) #[.int .i64 x.op,.int .i64 x.a,.int .i64 x.b,.string x.text,.int .i64 x.at_] F w.heap.size (w.heap.size+1) w4.heap.size (w4.alloc (.cells #[.string ⟨⟨F.word⟩⟩,.int .i64 F.a,.int .i64 F.text,.string ⟨⟨F.takes⟩⟩,.string ⟨⟨F.lays⟩⟩] 86 (0,0))):=by
  have hs2:((w.alloc (.cells #[.slice (some ⟨g,off,none⟩) m fc,.slice ga p.globals.length gc] 27 (0,0))).alloc (.cells #[.int .i64 x.op,.int .i64 x.a,.int .i64 x.b,.string x.text,.int .i64 x.at_] 36 (0,0))).heap.size=w.heap.size+2:=by simp
  have hn1:=heap_alloc_new (w.alloc (.cells #[.slice (some ⟨g,off,none⟩) m fc,.slice ga p.globals.length gc] 27 (0,0))) (.cells #[.int .i64 x.op,.int .i64 x.a,.int .i64 x.b,.string x.text,.int .i64 x.at_] 36 (0,0))
  rw[World.size_alloc] at hn1
  have hn0:=(heap_alloc_old (w.alloc (.cells #[.slice (some ⟨g,off,none⟩) m fc,.slice ga p.globals.length gc] 27 (0,0))) (.cells #[.int .i64 x.op,.int .i64 x.a,.int .i64 x.b,.string x.text,.int .i64 x.at_] 36 (0,0)) (show w.heap.size<_ by simp)).trans (heap_alloc_new w _)
  have hB2:Below w.heap.size w ((w.alloc (.cells #[.slice (some ⟨g,off,none⟩) m fc,.slice ga p.globals.length gc] 27 (0,0))).alloc (.cells #[.int .i64 x.op,.int .i64 x.a,.int .i64 x.b,.string x.text,.int .i64 x.at_] 36 (0,0))):=((Below.refl _ _).alloc (Nat.le_refl _) _).alloc (by simp) _
  rw[hs2] at hb4
  have hs4:=hb4.size
  rw[hs2] at hs4
  refine⟨(hB2.trans (hb4.mono (by omega))).alloc (by omega) _,⟨_,rfl,(heap_alloc_old _ _ (by omega)).trans ((hb4.block _ (by omega)).trans hn0)⟩,(heap_alloc_old _ _ (by omega)).trans ((hb4.block _ (by omega)).trans hn1),heap_alloc_new _ _⟩
 obtain⟨pb,hpb⟩:∃pb,w.heap.size=pb:=⟨_,rfl⟩
 obtain⟨fb,hfb⟩:∃fb,w4.heap.size=fb:=⟨_,rfl⟩
 obtain⟨W0,hW0⟩:∃W0,w4.alloc (.cells #[.string ⟨⟨F.word⟩⟩,.int .i64 F.a,.int .i64 F.text,.string ⟨⟨F.takes⟩⟩,.string ⟨⟨F.lays⟩⟩] 86 (0,0))=W0:=⟨_,rfl⟩
 rw[hW0] at hFN
 rw[hW0]
 rw[show FnAt w (.agg #[.slice (some ⟨g,off,none⟩) m fc,.slice ga p.globals.length gc]) #[.int .i64 x.op,.int .i64 x.a,.int .i64 x.b,.string x.text,.int .i64 x.at_] F w.heap.size (w.heap.size+1) w4.heap.size W0=FnAt w (.agg #[.slice (some ⟨g,off,none⟩) m fc,.slice ga p.globals.length gc]) #[.int .i64 x.op,.int .i64 x.a,.int .i64 x.b,.string x.text,.int .i64 x.at_] F pb (pb+1) fb W0 by rw[hpb,hfb]] at hFN
 have HFN:=Lib.hid hFN
 obtain⟨z0,z1,z2,z3,z4⟩:=HFN.out.xc
 obtain⟨p0,p1⟩:=HFN.out.pc
 have f0:=HFN.out.fc
 simp only[hpb,hfb]
 have hwe:(⟨⟨F.word⟩⟩:ByteArray).toList.isEmpty=F.word.isEmpty:=by rw[ByteArray.toList_eq]
 have hw:=Qhw.out
 have hat:=Qhat.out
 have hb:=Qhb.out
 have h26:=Qh26.out
 have hb1:=Qhb1.out
 have ha:=Qha.out
 have ew:F.word.isEmpty=false:=by rw[←HFF.out];exact hw
 have dA:decide (x.at_<0)=false:=decide_eq_false (by omega)
 have dB:decide (60000<x.at_)=false:=decide_eq_false (by omega)
 have e26:(x.op==26)=true:=by simp[h26]
 have db:(x.b !=0)=true:=by simp[hb]
 have db1:(x.b==1)=false:=by simp[hb1]
 have da:(x.a==2)=false:=by simp[ha]
 clear hFN hW0 hb4 hfb x0 x1 x2 x3 x4 HF
 clear hw hat hb h26 hb1 ha
 go_wp2_with (first
  |(go_at_call 81;refine(numbered_any ((HPV.out.keep fun b hb=>HFN.out.low.block b hb).more HFN.out.low.size) HO.out x).mono ?_;rintro e w6 ⟨rfl,hb6⟩;rw[en];have HFN6:=Lib.hid (HFN.out.under hb6);obtain⟨r0,r1,r2,r3,r4⟩:=HFN6.out.xc;clear hb6)
  |(go_at_call 82;refine(HS.out en _ (HGc.out.up HFN6.out.low)).mono ?_;rintro e w7 ⟨rfl,hb7⟩;rw[es];have HFN7:=Lib.hid (HFN6.out.under hb7);obtain⟨q0,q1,q2,q3,q4⟩:=HFN7.out.xc;clear hb7))
 all_goals
  go_ret
  exact⟨ret_bool (by first|rfl|(simp[*];done)|(simp_all;done)|(simp_all;omega)|(rw[Bool.eq_iff_iff];simp;done)|(rw[Bool.eq_iff_iff];simp;omega)|(rw[Bool.eq_iff_iff];simp[*];done)|(rw[Bool.eq_iff_iff];simp[*];omega)),(by first|exact HFN7.out.low|(have hlw:=HFN7.out.low;simp only[hpb] at hlw;exact hlw))⟩
theorem fine_b3 {p:Cp} {v:Value} {w:World} (hG:Gc w) (hv:LiesC w w.heap.size p v) {f k:Nat} {o:Cf} (ho:p.funcs[f]? =some o) {x:Ci} (hx:o.code[k]? =some x) (hlen:o.code.length≤60000) (hsay:numberedB p f x=true→SaysOk x) (hw:(formOf x.op).word.isEmpty=false) (hat:0≤x.at_∧x.at_≤60000) (en:numberedB p f x=true) (es:saysB x=true) (h26:x.op=26) (ha:x.a=2) (hb:x.b≠0∧x.b≠1∧x.b≠2∧x.b≠3):
  Calls Tryz.prog 37 #[v,.int .i64 f,.int .i64 k] w fun e w'=>e= .returned (.bool false)∧Below w.heap.size w w':=by
 have Qhw:=Lib.hid hw
 have Qhat:=Lib.hid hat
 have Qh26:=Lib.hid h26
 have Qha:=Lib.hid ha
 have Qhb:=Lib.hid hb
 clear hw hat h26 ha hb
 have HV:=Lib.hid hv
 have HGc:=Lib.hid hG
 obtain⟨fa,fc,ga,gc,xs,h1,rfl,h3,h4,h5,h6,h7⟩:=hv
 have hfl:f<p.funcs.length:=(List.getElem?_eq_some_iff.1 ho).1
 have hkl:k<o.code.length:=(List.getElem?_eq_some_iff.1 hx).1
 have hlx:xs.length=p.funcs.length:=by have:=congrArg List.length h1;simpa using this
 obtain⟨y,hy⟩:∃y,xs[f]? =some y:=⟨_,List.getElem?_eq_getElem (by omega)⟩
 have hyo:y.1=o:=by
  have:(xs.map Prod.fst)[f]? =some y.1:=by simp[hy]
  rw[h1,ho] at this
  exact(Option.some.inj this).symm
 obtain⟨o',fv⟩:=y
 obtain rfl:o'=o:=hyo
 obtain⟨g,off,rfl,hg,hc⟩:=h3.at (by rw[flat_len fn_len];omega)
 have c5:=(fn_at hc hy).2.2.2.2.2
 obtain⟨_,hcr,_,_⟩:=h7 _ (List.mem_of_getElem? hy)
 dsimp only at hcr
 obtain⟨ca,co,hca,hcb,hcc⟩:=hcr.at (by rw[flat_len ins_len];omega)
 rw[hca] at c5
 obtain⟨x0,x1,x2,x3,x4⟩:=ins_at hcc hx
 have HCC:=Lib.hid hcc
 have HF:=Lib.hid (forms_call x.op)
 obtain⟨F,hF⟩:∃F,formOf x.op=F:=⟨_,rfl⟩
 rw[hF] at HF
 have HO:=Lib.hid ho
 have HXK:=Lib.hid hx
 have HS:=Lib.hid hsay
 obtain⟨n,hn⟩:∃n,o'.code.length=n:=⟨_,rfl⟩
 have HN:=Lib.hid hn
 obtain⟨m,hm⟩:∃m,p.funcs.length=m:=⟨_,rfl⟩
 rw[hn] at hkl hlen c5
 rw[hm] at hfl h5⊢
 have HFF:=Lib.hid hF
 have HPV:Hid (LiesC w w.heap.size p (.agg #[.slice (some ⟨g,off,none⟩) m fc,.slice ga p.globals.length gc])):=by rw[←hm];exact HV
 clear h1 h3 h4 h6 h7 hc hy ho hx hn hm hsay hF hca hcr hcc hlx hG HV
 go_enter Tryz.func37,Tryz.ntmps37
 go_upto_region 4 with(go_at_call 44;refine(HF.out _).mono ?_;rintro e w4 ⟨rfl,hb4⟩)
 have hFN:FnAt w (.agg #[.slice (some ⟨g,off,none⟩) m fc,.slice ga p.globals.length gc]) #[.int .i64 x.op,.int .i64 x.a,.int .i64 x.b,.string x.text,.int .i64 x.at_] F w.heap.size (w.heap.size+1) w4.heap.size (w4.alloc (.cells #[.string ⟨⟨F.word⟩⟩,.int .i64 F.a,.int .i64 F.text,.string ⟨⟨F.takes⟩⟩,.string ⟨⟨F.lays⟩⟩] 86 (0,0))):=by
  have hs2:((w.alloc (.cells #[.slice (some ⟨g,off,none⟩) m fc,.slice ga p.globals.length gc] 27 (0,0))).alloc (.cells #[.int .i64 x.op,.int .i64 x.a,.int .i64 x.b,.string x.text,.int .i64 x.at_] 36 (0,0))).heap.size=w.heap.size+2:=by simp
  have hn1:=heap_alloc_new (w.alloc (.cells #[.slice (some ⟨g,off,none⟩) m fc,.slice ga p.globals.length gc] 27 (0,0))) (.cells #[.int .i64 x.op,.int .i64 x.a,.int .i64 x.b,.string x.text,.int .i64 x.at_] 36 (0,0))
  rw[World.size_alloc] at hn1
  have hn0:=(heap_alloc_old (w.alloc (.cells #[.slice (some ⟨g,off,none⟩) m fc,.slice ga p.globals.length gc] 27 (0,0))) (.cells #[.int .i64 x.op,.int .i64 x.a,.int .i64 x.b,.string x.text,.int .i64 x.at_] 36 (0,0)) (show w.heap.size<_ by simp)).trans (heap_alloc_new w _)
  have hB2:Below w.heap.size w ((w.alloc (.cells #[.slice (some ⟨g,off,none⟩) m fc,.slice ga p.globals.length gc] 27 (0,0))).alloc (.cells #[.int .i64 x.op,.int .i64 x.a,.int .i64 x.b,.string x.text,.int .i64 x.at_] 36 (0,0))):=((Below.refl _ _).alloc (Nat.le_refl _) _).alloc (by simp) _
  rw[hs2] at hb4
  have hs4:=hb4.size
  rw[hs2] at hs4
  refine⟨(hB2.trans (hb4.mono (by omega))).alloc (by omega) _,⟨_,rfl,(heap_alloc_old _ _ (by omega)).trans ((hb4.block _ (by omega)).trans hn0)⟩,(heap_alloc_old _ _ (by omega)).trans ((hb4.block _ (by omega)).trans hn1),heap_alloc_new _ _⟩
 obtain⟨pb,hpb⟩:∃pb,w.heap.size=pb:=⟨_,rfl⟩
 obtain⟨fb,hfb⟩:∃fb,w4.heap.size=fb:=⟨_,rfl⟩
 obtain⟨W0,hW0⟩:∃W0,w4.alloc (.cells #[.string ⟨⟨F.word⟩⟩,.int .i64 F.a,.int .i64 F.text,.string ⟨⟨F.takes⟩⟩,.string ⟨⟨F.lays⟩⟩] 86 (0,0))=W0:=⟨_,rfl⟩
 rw[hW0] at hFN
 rw[hW0]
 rw[show FnAt w (.agg #[.slice (some ⟨g,off,none⟩) m fc,.slice ga p.globals.length gc]) #[.int .i64 x.op,.int .i64 x.a,.int .i64 x.b,.string x.text,.int .i64 x.at_] F w.heap.size (w.heap.size+1) w4.heap.size W0=FnAt w (.agg #[.slice (some ⟨g,off,none⟩) m fc,.slice ga p.globals.length gc]) #[.int .i64 x.op,.int .i64 x.a,.int .i64 x.b,.string x.text,.int .i64 x.at_] F pb (pb+1) fb W0 by rw[hpb,hfb]] at hFN
 have HFN:=Lib.hid hFN
 obtain⟨z0,z1,z2,z3,z4⟩:=HFN.out.xc
 obtain⟨p0,p1⟩:=HFN.out.pc
 have f0:=HFN.out.fc
 simp only[hpb,hfb]
 have hwe:(⟨⟨F.word⟩⟩:ByteArray).toList.isEmpty=F.word.isEmpty:=by rw[ByteArray.toList_eq]
 have hw:=Qhw.out
 have hat:=Qhat.out
 have h26:=Qh26.out
 have ha:=Qha.out
 have hb:=Qhb.out
 have ew:F.word.isEmpty=false:=by rw[←HFF.out];exact hw
 have dA:decide (x.at_<0)=false:=decide_eq_false (by omega)
 have dB:decide (60000<x.at_)=false:=decide_eq_false (by omega)
 have e26:(x.op==26)=true:=by simp[h26]
 have db:(x.b !=0)=true:=by simp[hb.1]
 have db1:(x.b==1)=false:=by simp[hb.2.1]
 have da:(x.a==2)=true:=by simp[ha]
 have db2:(x.b==2)=false:=by simp[hb.2.2.1]
 have db3:(x.b==3)=false:=by simp[hb.2.2.2]
 clear hFN hW0 hb4 hfb x0 x1 x2 x3 x4 HF
 clear hw hat h26 ha hb
 go_wp2_with (first
  |(go_at_call 81;refine(numbered_any ((HPV.out.keep fun b hb=>HFN.out.low.block b hb).more HFN.out.low.size) HO.out x).mono ?_;rintro e w6 ⟨rfl,hb6⟩;rw[en];have HFN6:=Lib.hid (HFN.out.under hb6);obtain⟨r0,r1,r2,r3,r4⟩:=HFN6.out.xc;clear hb6)
  |(go_at_call 82;refine(HS.out en _ (HGc.out.up HFN6.out.low)).mono ?_;rintro e w7 ⟨rfl,hb7⟩;rw[es];have HFN7:=Lib.hid (HFN6.out.under hb7);obtain⟨q0,q1,q2,q3,q4⟩:=HFN7.out.xc;clear hb7))
 all_goals
  go_ret
  exact⟨ret_bool (by first|rfl|(simp[*];done)|(simp_all;done)|(simp_all;omega)|(rw[Bool.eq_iff_iff];simp;done)|(rw[Bool.eq_iff_iff];simp;omega)|(rw[Bool.eq_iff_iff];simp[*];done)|(rw[Bool.eq_iff_iff];simp[*];omega)),(by first|exact HFN7.out.low|(have hlw:=HFN7.out.low;simp only[hpb] at hlw;exact hlw))⟩
theorem fine_n1 {p:Cp} {v:Value} {w:World} (hG:Gc w) (hv:LiesC w w.heap.size p v) {f k:Nat} {o:Cf} (ho:p.funcs[f]? =some o) {x:Ci} (hx:o.code[k]? =some x) (hlen:o.code.length≤60000) (hsay:numberedB p f x=true→SaysOk x) (hw:(formOf x.op).word.isEmpty=false) (hat:0≤x.at_∧x.at_≤60000) (en:numberedB p f x=true) (es:saysB x=true) (h26:x.op≠26) (hb:x.b=0) (eg:goesB x.op=false):
  Calls Tryz.prog 37 #[v,.int .i64 f,.int .i64 k] w fun e w'=>e= .returned (.bool (decide (k+1<o.code.length)||(x.op==50||x.op==34)))∧Below w.heap.size w w':=by
 have Qhw:=Lib.hid hw
 have Qhat:=Lib.hid hat
 have Qh26:=Lib.hid h26
 have Qhb:=Lib.hid hb
 clear hw hat h26 hb
 have HV:=Lib.hid hv
 have HGc:=Lib.hid hG
 obtain⟨fa,fc,ga,gc,xs,h1,rfl,h3,h4,h5,h6,h7⟩:=hv
 have hfl:f<p.funcs.length:=(List.getElem?_eq_some_iff.1 ho).1
 have hkl:k<o.code.length:=(List.getElem?_eq_some_iff.1 hx).1
 have hlx:xs.length=p.funcs.length:=by have:=congrArg List.length h1;simpa using this
 obtain⟨y,hy⟩:∃y,xs[f]? =some y:=⟨_,List.getElem?_eq_getElem (by omega)⟩
 have hyo:y.1=o:=by
  have:(xs.map Prod.fst)[f]? =some y.1:=by simp[hy]
  rw[h1,ho] at this
  exact(Option.some.inj this).symm
 obtain⟨o',fv⟩:=y
 obtain rfl:o'=o:=hyo
 obtain⟨g,off,rfl,hg,hc⟩:=h3.at (by rw[flat_len fn_len];omega)
 have c5:=(fn_at hc hy).2.2.2.2.2
 obtain⟨_,hcr,_,_⟩:=h7 _ (List.mem_of_getElem? hy)
 dsimp only at hcr
 obtain⟨ca,co,hca,hcb,hcc⟩:=hcr.at (by rw[flat_len ins_len];omega)
 rw[hca] at c5
 obtain⟨x0,x1,x2,x3,x4⟩:=ins_at hcc hx
 have HCC:=Lib.hid hcc
 have HF:=Lib.hid (forms_call x.op)
 obtain⟨F,hF⟩:∃F,formOf x.op=F:=⟨_,rfl⟩
 rw[hF] at HF
 have HO:=Lib.hid ho
 have HXK:=Lib.hid hx
 have HS:=Lib.hid hsay
 obtain⟨n,hn⟩:∃n,o'.code.length=n:=⟨_,rfl⟩
 have HN:=Lib.hid hn
 obtain⟨m,hm⟩:∃m,p.funcs.length=m:=⟨_,rfl⟩
 rw[hn] at hkl hlen c5⊢
 rw[hm] at hfl h5⊢
 have HFF:=Lib.hid hF
 have HPV:Hid (LiesC w w.heap.size p (.agg #[.slice (some ⟨g,off,none⟩) m fc,.slice ga p.globals.length gc])):=by rw[←hm];exact HV
 clear h1 h3 h4 h6 h7 hc hy ho hx hn hm hsay hF hca hcr hcc hlx hG HV
 obtain⟨R,HR⟩:∃R,Hid ((decide (k+1<n)||(x.op==50||x.op==34))=R):=⟨_,rfl⟩
 rw[HR.out]
 go_enter Tryz.func37,Tryz.ntmps37
 go_upto_region 4 with(go_at_call 44;refine(HF.out _).mono ?_;rintro e w4 ⟨rfl,hb4⟩)
 have hFN:FnAt w (.agg #[.slice (some ⟨g,off,none⟩) m fc,.slice ga p.globals.length gc]) #[.int .i64 x.op,.int .i64 x.a,.int .i64 x.b,.string x.text,.int .i64 x.at_] F w.heap.size (w.heap.size+1) w4.heap.size (w4.alloc (.cells #[.string ⟨⟨F.word⟩⟩,.int .i64 F.a,.int .i64 F.text,.string ⟨⟨F.takes⟩⟩,.string ⟨⟨F.lays⟩⟩] 86 (0,0))):=by
  have hs2:((w.alloc (.cells #[.slice (some ⟨g,off,none⟩) m fc,.slice ga p.globals.length gc] 27 (0,0))).alloc (.cells #[.int .i64 x.op,.int .i64 x.a,.int .i64 x.b,.string x.text,.int .i64 x.at_] 36 (0,0))).heap.size=w.heap.size+2:=by simp
  have hn1:=heap_alloc_new (w.alloc (.cells #[.slice (some ⟨g,off,none⟩) m fc,.slice ga p.globals.length gc] 27 (0,0))) (.cells #[.int .i64 x.op,.int .i64 x.a,.int .i64 x.b,.string x.text,.int .i64 x.at_] 36 (0,0))
  rw[World.size_alloc] at hn1
  have hn0:=(heap_alloc_old (w.alloc (.cells #[.slice (some ⟨g,off,none⟩) m fc,.slice ga p.globals.length gc] 27 (0,0))) (.cells #[.int .i64 x.op,.int .i64 x.a,.int .i64 x.b,.string x.text,.int .i64 x.at_] 36 (0,0)) (show w.heap.size<_ by simp)).trans (heap_alloc_new w _)
  have hB2:Below w.heap.size w ((w.alloc (.cells #[.slice (some ⟨g,off,none⟩) m fc,.slice ga p.globals.length gc] 27 (0,0))).alloc (.cells #[.int .i64 x.op,.int .i64 x.a,.int .i64 x.b,.string x.text,.int .i64 x.at_] 36 (0,0))):=((Below.refl _ _).alloc (Nat.le_refl _) _).alloc (by simp) _
  rw[hs2] at hb4
  have hs4:=hb4.size
  rw[hs2] at hs4
  refine⟨(hB2.trans (hb4.mono (by omega))).alloc (by omega) _,⟨_,rfl,(heap_alloc_old _ _ (by omega)).trans ((hb4.block _ (by omega)).trans hn0)⟩,(heap_alloc_old _ _ (by omega)).trans ((hb4.block _ (by omega)).trans hn1),heap_alloc_new _ _⟩
 obtain⟨pb,hpb⟩:∃pb,w.heap.size=pb:=⟨_,rfl⟩
 obtain⟨fb,hfb⟩:∃fb,w4.heap.size=fb:=⟨_,rfl⟩
 obtain⟨W0,hW0⟩:∃W0,w4.alloc (.cells #[.string ⟨⟨F.word⟩⟩,.int .i64 F.a,.int .i64 F.text,.string ⟨⟨F.takes⟩⟩,.string ⟨⟨F.lays⟩⟩] 86 (0,0))=W0:=⟨_,rfl⟩
 rw[hW0] at hFN
 rw[hW0]
 rw[show FnAt w (.agg #[.slice (some ⟨g,off,none⟩) m fc,.slice ga p.globals.length gc]) #[.int .i64 x.op,.int .i64 x.a,.int .i64 x.b,.string x.text,.int .i64 x.at_] F w.heap.size (w.heap.size+1) w4.heap.size W0=FnAt w (.agg #[.slice (some ⟨g,off,none⟩) m fc,.slice ga p.globals.length gc]) #[.int .i64 x.op,.int .i64 x.a,.int .i64 x.b,.string x.text,.int .i64 x.at_] F pb (pb+1) fb W0 by rw[hpb,hfb]] at hFN
 have HFN:=Lib.hid hFN
 obtain⟨z0,z1,z2,z3,z4⟩:=HFN.out.xc
 obtain⟨p0,p1⟩:=HFN.out.pc
 have f0:=HFN.out.fc
 simp only[hpb,hfb]
 have hwe:(⟨⟨F.word⟩⟩:ByteArray).toList.isEmpty=F.word.isEmpty:=by rw[ByteArray.toList_eq]
 have hw:=Qhw.out
 have hat:=Qhat.out
 have h26:=Qh26.out
 have hb:=Qhb.out
 have ew:F.word.isEmpty=false:=by rw[←HFF.out];exact hw
 have dA:decide (x.at_<0)=false:=decide_eq_false (by omega)
 have dB:decide (60000<x.at_)=false:=decide_eq_false (by omega)
 have db:(x.b !=0)=false:=by simp[hb]
 have e26:(x.op==26)=false:=by simp[h26]
 clear hFN hW0 hb4 hfb x0 x1 x2 x3 x4 HF
 clear hw hat h26 hb
 go_wp2_with (first
  |(go_at_call 81;refine(numbered_any ((HPV.out.keep fun b hb=>HFN.out.low.block b hb).more HFN.out.low.size) HO.out x).mono ?_;rintro e w6 ⟨rfl,hb6⟩;rw[en];have HFN6:=Lib.hid (HFN.out.under hb6);obtain⟨r0,r1,r2,r3,r4⟩:=HFN6.out.xc;clear hb6)
  |(go_at_call 82;refine(HS.out en _ (HGc.out.up HFN6.out.low)).mono ?_;rintro e w7 ⟨rfl,hb7⟩;rw[es];have HFN7:=Lib.hid (HFN6.out.under hb7);obtain⟨q0,q1,q2,q3,q4⟩:=HFN7.out.xc;clear hb7)
  |(go_at_call 83;refine(goes_any _ _).mono ?_;rintro e w8 ⟨rfl,hb8⟩;rw[eg];have HFN8:=Lib.hid (HFN7.out.under hb8);obtain⟨u0,u1,u2,u3,u4⟩:=HFN8.out.xc;skip;clear hb8))
 all_goals
  go_ret
  refine⟨ret_bool ?_,(by first|exact HFN8.out.low|(have hlw:=HFN8.out.low;simp only[hpb] at hlw;exact hlw))⟩
  rw[←HR.out]
  try first|rfl|(simp[*];done)|(simp_all;done)|(simp_all;omega)|(rw[Bool.eq_iff_iff];simp;done)|(rw[Bool.eq_iff_iff];simp;omega)|(rw[Bool.eq_iff_iff];simp[*];done)|(rw[Bool.eq_iff_iff];simp[*];omega)
end Go.Proofs.YtagnicbknbmccaaGreatDoor
