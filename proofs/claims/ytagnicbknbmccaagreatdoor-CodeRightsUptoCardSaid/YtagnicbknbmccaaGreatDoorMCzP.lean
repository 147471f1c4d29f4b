/- code.fine of any instruction. code.fine of any instruction. -/
import Derived.Test.YtagnicbknbmccaaGreatDoorMCxA
import Derived.Test.YtagnicbknbmccaaGreatDoorCzM
set_option maxRecDepth 100000
set_option maxHeartbeats 4000000
namespace Go.Proofs.YtagnicbknbmccaaGreatDoor
open Go.RowKit
theorem fine_b1 {p:Cp} {v:Value} {w:World} (hG:Gc w) (hv:LiesC w w.heap.size p v) {f k:Nat} {o:Cf} (ho:p.funcs[f]? =some o) {x:Ci} (hx:o.code[k]? =some x) (hlen:o.code.length≤60000) (hsay:numberedB p f x=true→SaysOk x) (hw:(formOf x.op).word.isEmpty=false) (hat:0≤x.at_∧x.at_≤60000) (en:numberedB p f x=true) (es:saysB x=true) (hb:x.b≠0) (h26:x.op≠26):
  Calls Tryz.prog 37 #[v,.int .i64 f,.int .i64 k] w fun e w'=>e= .returned (.bool false)∧Below w.heap.size w w':=by
 have Qhw:=Lib.hid hw
 have Qhat:=Lib.hid hat
 have Qhb:=Lib.hid hb
 have Qh26:=Lib.hid h26
 clear hw hat hb h26
 have HGc:=Lib.hid hG
 have HO:=Lib.hid ho
 have HS:=Lib.hid hsay
 have HF:=Lib.hid (forms_call x.op)
 obtain⟨F,hF⟩:∃F,formOf x.op=F:=⟨_,rfl⟩
 rw[hF] at HF
 have HFF:=Lib.hid hF
 obtain⟨g,off,m,fc,ga,gc,n,ca,co,cap,rfl,hn,hfl,h5,hkl,hln,c5,hg,hcb,x0,x1,x2,x3,x4,HCC,HPV⟩:=fine_env hv ho hx hlen
 have HN:=Lib.hid hn
 clear hv ho hx hn hsay hF hlen hG
 go_enter Tryz.func37,Tryz.ntmps37
 go_upto_region 4 with(go_at_call 44;refine(HF.out _).mono ?_;rintro e w4 ⟨rfl,hb4⟩)
 obtain⟨pb,fb,W0,hpb,hfb,hW0,hFN⟩:=fine_fn (F:=F) hb4
 rw[hW0]
 have HFN:=Lib.hid hFN
 obtain⟨z0,z1,z2,z3,z4⟩:=HFN.out.xc
 obtain⟨p0,p1⟩:=HFN.out.pc
 have f0:=HFN.out.fc
 simp only[hpb,hfb]
 have hwe:(⟨⟨F.word⟩⟩:ByteArray).toList.isEmpty=F.word.isEmpty:=by rw[ByteArray.toList_eq]
 have hw:=Qhw.out
 have hat:=Qhat.out
 have hb:=Qhb.out
 have h26:=Qh26.out
 have ew:F.word.isEmpty=false:=by rw[←HFF.out];exact hw
 have dA:decide (x.at_<0)=false:=decide_eq_false (by omega)
 have dB:decide (60000<x.at_)=false:=decide_eq_false (by omega)
 have e26:(x.op==26)=false:=by simp[h26]
 have db:(x.b !=0)=true:=by simp[hb]
 clear hFN hW0 hb4 hfb x0 x1 x2 x3 x4 HF
 clear hw hat hb h26
 go_wp2_with (first
  |(go_at_call 81;refine(numbered_any ((HPV.out.keep fun b hb=>HFN.out.low.block b hb).more HFN.out.low.size) HO.out x).mono ?_;rintro e w6 ⟨rfl,hb6⟩;rw[en];have HFN6:=Lib.hid (HFN.out.under hb6);obtain⟨r0,r1,r2,r3,r4⟩:=HFN6.out.xc;clear hb6)
  |(go_at_call 82;refine(HS.out en _ (HGc.out.up HFN6.out.low)).mono ?_;rintro e w7 ⟨rfl,hb7⟩;rw[es];have HFN7:=Lib.hid (HFN6.out.under hb7);obtain⟨q0,q1,q2,q3,q4⟩:=HFN7.out.xc;clear hb7))
 all_goals
  go_ret
  exact⟨ret_bool (by first|rfl|(simp[*];done)|(simp_all;done)|(simp_all;omega)|(rw[Bool.eq_iff_iff];simp;done)|(rw[Bool.eq_iff_iff];simp;omega)|(rw[Bool.eq_iff_iff];simp[*];done)|(rw[Bool.eq_iff_iff];simp[*];omega)),(by first|exact HFN7.out.low|(have hlw:=HFN7.out.low;simp only[hpb] at hlw;exact hlw))⟩
theorem fine_b2 {p:Cp} {v:Value} {w:World} (hG:Gc w) (hv:LiesC w w.heap.size p v) {f k:Nat} {o:Cf} (ho:p.funcs[f]? =some o) {x:Ci} (hx:o.code[k]? =some x) (hlen:o.code.length≤60000) (hsay:numberedB p f x=true→SaysOk x) (hw:(formOf x.op).word.isEmpty=false) (hat:0≤x.at_∧x.at_≤60000) (en:numberedB p f x=true) (es:saysB x=true) (hb:x.b≠0) (h26:x.op=26) (hb1:x.b≠1) (ha:x.a≠2):
  Calls Tryz.prog 37 #[v,.int .i64 f,.int .i64 k] w fun e w'=>e= .returned (.bool false)∧Below w.heap.size w w':=by
 have Qhw:=Lib.hid hw
 have Qhat:=Lib.hid hat
 have Qhb:=Lib.hid hb
 have Qh26:=Lib.hid h26
 have Qhb1:=Lib.hid hb1
 have Qha:=Lib.hid ha
 clear hw hat hb h26 hb1 ha
 have HGc:=Lib.hid hG
 have HO:=Lib.hid ho
 have HS:=Lib.hid hsay
 have HF:=Lib.hid (forms_call x.op)
 obtain⟨F,hF⟩:∃F,formOf x.op=F:=⟨_,rfl⟩
 rw[hF] at HF
 have HFF:=Lib.hid hF
 obtain⟨g,off,m,fc,ga,gc,n,ca,co,cap,rfl,hn,hfl,h5,hkl,hln,c5,hg,hcb,x0,x1,x2,x3,x4,HCC,HPV⟩:=fine_env hv ho hx hlen
 have HN:=Lib.hid hn
 clear hv ho hx hn hsay hF hlen hG
 go_enter Tryz.func37,Tryz.ntmps37
 go_upto_region 4 with(go_at_call 44;refine(HF.out _).mono ?_;rintro e w4 ⟨rfl,hb4⟩)
 obtain⟨pb,fb,W0,hpb,hfb,hW0,hFN⟩:=fine_fn (F:=F) hb4
 rw[hW0]
 have HFN:=Lib.hid hFN
 obtain⟨z0,z1,z2,z3,z4⟩:=HFN.out.xc
 obtain⟨p0,p1⟩:=HFN.out.pc
 have f0:=HFN.out.fc
 simp only[hpb,hfb]
 have hwe:(⟨⟨F.word⟩⟩:ByteArray).toList.isEmpty=F.word.isEmpty:=by rw[ByteArray.toList_eq]
 have hw:=Qhw.out
 have hat:=Qhat.out
 have hb:=Qhb.out
 have h26:=Qh26.out
 have hb1:=Qhb1.out
 have ha:=Qha.out
 have ew:F.word.isEmpty=false:=by rw[←HFF.out];exact hw
 have dA:decide (x.at_<0)=false:=decide_eq_false (by omega)
 have dB:decide (60000<x.at_)=false:=decide_eq_false (by omega)
 have e26:(x.op==26)=true:=by simp[h26]
 have db:(x.b !=0)=true:=by simp[hb]
 have db1:(x.b==1)=false:=by simp[hb1]
 have da:(x.a==2)=false:=by simp[ha]
 clear hFN hW0 hb4 hfb x0 x1 x2 x3 x4 HF
 clear hw hat hb h26 hb1 ha
 go_wp2_with (first
  |(go_at_call 81;refine(numbered_any ((HPV.out.keep fun b hb=>HFN.out.low.block b hb).more HFN.out.low.size) HO.out x).mono ?_;rintro e w6 ⟨rfl,hb6⟩;rw[en];have HFN6:=Lib.hid (HFN.out.under hb6);obtain⟨r0,r1,r2,r3,r4⟩:=HFN6.out.xc;clear hb6)
  |(go_at_call 82;refine(HS.out en _ (HGc.out.up HFN6.out.low)).mono ?_;rintro e w7 ⟨rfl,hb7⟩;rw[es];have HFN7:=Lib.hid (HFN6.out.under hb7);obtain⟨q0,q1,q2,q3,q4⟩:=HFN7.out.xc;clear hb7))
 all_goals
  go_ret
  exact⟨ret_bool (by first|rfl|(simp[*];done)|(simp_all;done)|(simp_all;omega)|(rw[Bool.eq_iff_iff];simp;done)|(rw[Bool.eq_iff_iff];simp;omega)|(rw[Bool.eq_iff_iff];simp[*];done)|(rw[Bool.eq_iff_iff];simp[*];omega)),(by first|exact HFN7.out.low|(have hlw:=HFN7.out.low;simp only[hpb] at hlw;exact hlw))⟩
theorem fine_b3 {p:Cp} {v:Value} {w:World} (hG:Gc w) (hv:LiesC w w.heap.size p v) {f k:Nat} {o:Cf} (ho:p.funcs[f]? =some o) {x:Ci} (hx:o.code[k]? =some x) (hlen:o.code.length≤60000) (hsay:numberedB p f x=true→SaysOk x) (hw:(formOf x.op).word.isEmpty=false) (hat:0≤x.at_∧x.at_≤60000) (en:numberedB p f x=true) (es:saysB x=true) (h26:x.op=26) (ha:x.a=2) (hb:x.b≠0∧x.b≠1∧x.b≠2∧x.b≠3):
  Calls Tryz.prog 37 #[v,.int .i64 f,.int .i64 k] w fun e w'=>e= .returned (.bool false)∧Below w.heap.size w w':=by
 have Qhw:=Lib.hid hw
 have Qhat:=Lib.hid hat
 have Qh26:=Lib.hid h26
 have Qha:=Lib.hid ha
 have Qhb:=Lib.hid hb
 clear hw hat h26 ha hb
 have HGc:=Lib.hid hG
 have HO:=Lib.hid ho
 have HS:=Lib.hid hsay
 have HF:=Lib.hid (forms_call x.op)
 obtain⟨F,hF⟩:∃F,formOf x.op=F:=⟨_,rfl⟩
 rw[hF] at HF
 have HFF:=Lib.hid hF
 obtain⟨g,off,m,fc,ga,gc,n,ca,co,cap,rfl,hn,hfl,h5,hkl,hln,c5,hg,hcb,x0,x1,x2,x3,x4,HCC,HPV⟩:=fine_env hv ho hx hlen
 have HN:=Lib.hid hn
 clear hv ho hx hn hsay hF hlen hG
 go_enter Tryz.func37,Tryz.ntmps37
 go_upto_region 4 with(go_at_call 44;refine(HF.out _).mono ?_;rintro e w4 ⟨rfl,hb4⟩)
 obtain⟨pb,fb,W0,hpb,hfb,hW0,hFN⟩:=fine_fn (F:=F) hb4
 rw[hW0]
 have HFN:=Lib.hid hFN
 obtain⟨z0,z1,z2,z3,z4⟩:=HFN.out.xc
 obtain⟨p0,p1⟩:=HFN.out.pc
 have f0:=HFN.out.fc
 simp only[hpb,hfb]
 have hwe:(⟨⟨F.word⟩⟩:ByteArray).toList.isEmpty=F.word.isEmpty:=by rw[ByteArray.toList_eq]
 have hw:=Qhw.out
 have hat:=Qhat.out
 have h26:=Qh26.out
 have ha:=Qha.out
 have hb:=Qhb.out
 have ew:F.word.isEmpty=false:=by rw[←HFF.out];exact hw
 have dA:decide (x.at_<0)=false:=decide_eq_false (by omega)
 have dB:decide (60000<x.at_)=false:=decide_eq_false (by omega)
 have e26:(x.op==26)=true:=by simp[h26]
 have db:(x.b !=0)=true:=by simp[hb.1]
 have db1:(x.b==1)=false:=by simp[hb.2.1]
 have da:(x.a==2)=true:=by simp[ha]
 have db2:(x.b==2)=false:=by simp[hb.2.2.1]
 have db3:(x.b==3)=false:=by simp[hb.2.2.2]
 clear hFN hW0 hb4 hfb x0 x1 x2 x3 x4 HF
 clear hw hat h26 ha hb
 go_wp2_with (first
  |(go_at_call 81;refine(numbered_any ((HPV.out.keep fun b hb=>HFN.out.low.block b hb).more HFN.out.low.size) HO.out x).mono ?_;rintro e w6 ⟨rfl,hb6⟩;rw[en];have HFN6:=Lib.hid (HFN.out.under hb6);obtain⟨r0,r1,r2,r3,r4⟩:=HFN6.out.xc;clear hb6)
  |(go_at_call 82;refine(HS.out en _ (HGc.out.up HFN6.out.low)).mono ?_;rintro e w7 ⟨rfl,hb7⟩;rw[es];have HFN7:=Lib.hid (HFN6.out.under hb7);obtain⟨q0,q1,q2,q3,q4⟩:=HFN7.out.xc;clear hb7))
 all_goals
  go_ret
  exact⟨ret_bool (by first|rfl|(simp[*];done)|(simp_all;done)|(simp_all;omega)|(rw[Bool.eq_iff_iff];simp;done)|(rw[Bool.eq_iff_iff];simp;omega)|(rw[Bool.eq_iff_iff];simp[*];done)|(rw[Bool.eq_iff_iff];simp[*];omega)),(by first|exact HFN7.out.low|(have hlw:=HFN7.out.low;simp only[hpb] at hlw;exact hlw))⟩
theorem fine_n1 {p:Cp} {v:Value} {w:World} (hG:Gc w) (hv:LiesC w w.heap.size p v) {f k:Nat} {o:Cf} (ho:p.funcs[f]? =some o) {x:Ci} (hx:o.code[k]? =some x) (hlen:o.code.length≤60000) (hsay:numberedB p f x=true→SaysOk x) (hw:(formOf x.op).word.isEmpty=false) (hat:0≤x.at_∧x.at_≤60000) (en:numberedB p f x=true) (es:saysB x=true) (h26:x.op≠26) (hb:x.b=0) (eg:goesB x.op=false):
  Calls Tryz.prog 37 #[v,.int .i64 f,.int .i64 k] w fun e w'=>e= .returned (.bool (decide (k+1<o.code.length)||(x.op==50||x.op==34)))∧Below w.heap.size w w':=by
 have Qhw:=Lib.hid hw
 have Qhat:=Lib.hid hat
 have Qh26:=Lib.hid h26
 have Qhb:=Lib.hid hb
 clear hw hat h26 hb
 have HGc:=Lib.hid hG
 have HO:=Lib.hid ho
 have HS:=Lib.hid hsay
 have HF:=Lib.hid (forms_call x.op)
 obtain⟨F,hF⟩:∃F,formOf x.op=F:=⟨_,rfl⟩
 rw[hF] at HF
 have HFF:=Lib.hid hF
 obtain⟨g,off,m,fc,ga,gc,n,ca,co,cap,rfl,hn,hfl,h5,hkl,hln,c5,hg,hcb,x0,x1,x2,x3,x4,HCC,HPV⟩:=fine_env hv ho hx hlen
 have HN:=Lib.hid hn
 rw[hn]
 obtain⟨R,HR⟩:∃R,Hid ((decide (k+1<n)||(x.op==50||x.op==34))=R):=⟨_,rfl⟩
 rw[HR.out]
 clear hv ho hx hn hsay hF hlen hG
 go_enter Tryz.func37,Tryz.ntmps37
 go_upto_region 4 with(go_at_call 44;refine(HF.out _).mono ?_;rintro e w4 ⟨rfl,hb4⟩)
 obtain⟨pb,fb,W0,hpb,hfb,hW0,hFN⟩:=fine_fn (F:=F) hb4
 rw[hW0]
 have HFN:=Lib.hid hFN
 obtain⟨z0,z1,z2,z3,z4⟩:=HFN.out.xc
 obtain⟨p0,p1⟩:=HFN.out.pc
 have f0:=HFN.out.fc
 simp only[hpb,hfb]
 have hwe:(⟨⟨F.word⟩⟩:ByteArray).toList.isEmpty=F.word.isEmpty:=by rw[ByteArray.toList_eq]
 have hw:=Qhw.out
 have hat:=Qhat.out
 have h26:=Qh26.out
 have hb:=Qhb.out
 have ew:F.word.isEmpty=false:=by rw[←HFF.out];exact hw
 have dA:decide (x.at_<0)=false:=decide_eq_false (by omega)
 have dB:decide (60000<x.at_)=false:=decide_eq_false (by omega)
 have db:(x.b !=0)=false:=by simp[hb]
 have e26:(x.op==26)=false:=by simp[h26]
 clear hFN hW0 hb4 hfb x0 x1 x2 x3 x4 HF
 clear hw hat h26 hb
 go_wp2_with (first
  |(go_at_call 81;refine(numbered_any ((HPV.out.keep fun b hb=>HFN.out.low.block b hb).more HFN.out.low.size) HO.out x).mono ?_;rintro e w6 ⟨rfl,hb6⟩;rw[en];have HFN6:=Lib.hid (HFN.out.under hb6);obtain⟨r0,r1,r2,r3,r4⟩:=HFN6.out.xc;clear hb6)
  |(go_at_call 82;refine(HS.out en _ (HGc.out.up HFN6.out.low)).mono ?_;rintro e w7 ⟨rfl,hb7⟩;rw[es];have HFN7:=Lib.hid (HFN6.out.under hb7);obtain⟨q0,q1,q2,q3,q4⟩:=HFN7.out.xc;clear hb7)
  |(go_at_call 83;refine(goes_any _ _).mono ?_;rintro e w8 ⟨rfl,hb8⟩;rw[eg];have HFN8:=Lib.hid (HFN7.out.under hb8);obtain⟨u0,u1,u2,u3,u4⟩:=HFN8.out.xc;skip;clear hb8))
 all_goals
  go_ret
  refine⟨ret_bool ?_,(by first|exact HFN8.out.low|(have hlw:=HFN8.out.low;simp only[hpb] at hlw;exact hlw))⟩
  rw[←HR.out]
  try first|rfl|(simp[*];done)|(simp_all;done)|(simp_all;omega)|(rw[Bool.eq_iff_iff];simp;done)|(rw[Bool.eq_iff_iff];simp;omega)|(rw[Bool.eq_iff_iff];simp[*];done)|(rw[Bool.eq_iff_iff];simp[*];omega)
theorem fine_g2 {p:Cp} {v:Value} {w:World} (hG:Gc w) (hv:LiesC w w.heap.size p v) {f k:Nat} {o:Cf} (ho:p.funcs[f]? =some o) {x:Ci} (hx:o.code[k]? =some x) (hlen:o.code.length≤60000) (hsay:numberedB p f x=true→SaysOk x) (hw:(formOf x.op).word.isEmpty=false) (hat:0≤x.at_∧x.at_≤60000) (en:numberedB p f x=true) (es:saysB x=true) (h26:x.op≠26) (hb:x.b=0) (eg:goesB x.op=true) {j:Nat} {y:Ci} (hta:x.a=(j:Int)) (htj:o.code[j]? =some y) (hlk:j≤k) (hty:y.op=1):
  Calls Tryz.prog 37 #[v,.int .i64 f,.int .i64 k] w fun e w'=>e= .returned (.bool (decide (k+1<o.code.length)||(x.op==50||x.op==34)))∧Below w.heap.size w w':=by
 have Qhw:=Lib.hid hw
 have Qhat:=Lib.hid hat
 have Qh26:=Lib.hid h26
 have Qhb:=Lib.hid hb
 have Qhta:=Lib.hid hta
 have Qhtj:=Lib.hid htj
 have Qhlk:=Lib.hid hlk
 have Qhty:=Lib.hid hty
 clear hw hat h26 hb hta htj hlk hty
 have HGc:=Lib.hid hG
 have HO:=Lib.hid ho
 have HS:=Lib.hid hsay
 have HF:=Lib.hid (forms_call x.op)
 obtain⟨F,hF⟩:∃F,formOf x.op=F:=⟨_,rfl⟩
 rw[hF] at HF
 have HFF:=Lib.hid hF
 obtain⟨g,off,m,fc,ga,gc,n,ca,co,cap,rfl,hn,hfl,h5,hkl,hln,c5,hg,hcb,x0,x1,x2,x3,x4,HCC,HPV⟩:=fine_env hv ho hx hlen
 have HN:=Lib.hid hn
 rw[hn]
 obtain⟨R,HR⟩:∃R,Hid ((decide (k+1<n)||(x.op==50||x.op==34))=R):=⟨_,rfl⟩
 rw[HR.out]
 clear hv ho hx hn hsay hF hlen hG
 go_enter Tryz.func37,Tryz.ntmps37
 go_upto_region 4 with(go_at_call 44;refine(HF.out _).mono ?_;rintro e w4 ⟨rfl,hb4⟩)
 obtain⟨pb,fb,W0,hpb,hfb,hW0,hFN⟩:=fine_fn (F:=F) hb4
 rw[hW0]
 have HFN:=Lib.hid hFN
 obtain⟨z0,z1,z2,z3,z4⟩:=HFN.out.xc
 obtain⟨p0,p1⟩:=HFN.out.pc
 have f0:=HFN.out.fc
 simp only[hpb,hfb]
 have hwe:(⟨⟨F.word⟩⟩:ByteArray).toList.isEmpty=F.word.isEmpty:=by rw[ByteArray.toList_eq]
 have hw:=Qhw.out
 have hat:=Qhat.out
 have h26:=Qh26.out
 have hb:=Qhb.out
 have hta:=Qhta.out
 have htj:=Qhtj.out
 have hlk:=Qhlk.out
 have hty:=Qhty.out
 have ew:F.word.isEmpty=false:=by rw[←HFF.out];exact hw
 have dA:decide (x.at_<0)=false:=decide_eq_false (by omega)
 have dB:decide (60000<x.at_)=false:=decide_eq_false (by omega)
 have db:(x.b !=0)=false:=by simp[hb]
 have e26:(x.op==26)=false:=by simp[h26]
 have hjn:j<n:=by rw[←HN.out];exact(List.getElem?_eq_some_iff.1 htj).1
 have HV0:=Lib.hid (ins_at HCC.out htj).1
 have dk:decide ((j:Int)≤(k:Int))=true:=by simp;omega
 have e1:(y.op !=1)=false:=by simp[hty]
 clear hFN hW0 hb4 hfb x0 x1 x2 x3 x4 HF
 clear hw hat h26 hb hta htj hlk hty
 go_wp2_with (first
  |(go_at_call 81;refine(numbered_any ((HPV.out.keep fun b hb=>HFN.out.low.block b hb).more HFN.out.low.size) HO.out x).mono ?_;rintro e w6 ⟨rfl,hb6⟩;rw[en];have HFN6:=Lib.hid (HFN.out.under hb6);obtain⟨r0,r1,r2,r3,r4⟩:=HFN6.out.xc;clear hb6)
  |(go_at_call 82;refine(HS.out en _ (HGc.out.up HFN6.out.low)).mono ?_;rintro e w7 ⟨rfl,hb7⟩;rw[es];have HFN7:=Lib.hid (HFN6.out.under hb7);obtain⟨q0,q1,q2,q3,q4⟩:=HFN7.out.xc;clear hb7)
  |(go_at_call 83;refine(goes_any _ _).mono ?_;rintro e w8 ⟨rfl,hb8⟩;rw[eg];have HFN8:=Lib.hid (HFN7.out.under hb8);obtain⟨u0,u1,u2,u3,u4⟩:=HFN8.out.xc;skip;clear hb8;have t0:=(HFN8.out.low.cell (p:=⟨ca,co+j*5,none⟩) hcb).trans HV0.out;rw[Qhta.out] at u1))
 all_goals
  go_ret
  refine⟨ret_bool ?_,(by first|exact HFN8.out.low|(have hlw:=HFN8.out.low;simp only[hpb] at hlw;exact hlw))⟩
  rw[←HR.out]
  try first|rfl|(simp[*];done)|(simp_all;done)|(simp_all;omega)|(rw[Bool.eq_iff_iff];simp;done)|(rw[Bool.eq_iff_iff];simp;omega)|(rw[Bool.eq_iff_iff];simp[*];done)|(rw[Bool.eq_iff_iff];simp[*];omega)
theorem fine_g3 {p:Cp} {v:Value} {w:World} (hG:Gc w) (hv:LiesC w w.heap.size p v) {f k:Nat} {o:Cf} (ho:p.funcs[f]? =some o) {x:Ci} (hx:o.code[k]? =some x) (hlen:o.code.length≤60000) (hsay:numberedB p f x=true→SaysOk x) (hw:(formOf x.op).word.isEmpty=false) (hat:0≤x.at_∧x.at_≤60000) (en:numberedB p f x=true) (es:saysB x=true) (h26:x.op≠26) (hb:x.b=0) (eg:goesB x.op=true) {j:Nat} {y:Ci} (hta:x.a=(j:Int)) (htj:o.code[j]? =some y) (hlk:j≤k) (hty:y.op=2):
  Calls Tryz.prog 37 #[v,.int .i64 f,.int .i64 k] w fun e w'=>e= .returned (.bool (decide (k+1<o.code.length)||(x.op==50||x.op==34)))∧Below w.heap.size w w':=by
 have Qhw:=Lib.hid hw
 have Qhat:=Lib.hid hat
 have Qh26:=Lib.hid h26
 have Qhb:=Lib.hid hb
 have Qhta:=Lib.hid hta
 have Qhtj:=Lib.hid htj
 have Qhlk:=Lib.hid hlk
 have Qhty:=Lib.hid hty
 clear hw hat h26 hb hta htj hlk hty
 have HGc:=Lib.hid hG
 have HO:=Lib.hid ho
 have HS:=Lib.hid hsay
 have HF:=Lib.hid (forms_call x.op)
 obtain⟨F,hF⟩:∃F,formOf x.op=F:=⟨_,rfl⟩
 rw[hF] at HF
 have HFF:=Lib.hid hF
 obtain⟨g,off,m,fc,ga,gc,n,ca,co,cap,rfl,hn,hfl,h5,hkl,hln,c5,hg,hcb,x0,x1,x2,x3,x4,HCC,HPV⟩:=fine_env hv ho hx hlen
 have HN:=Lib.hid hn
 rw[hn]
 obtain⟨R,HR⟩:∃R,Hid ((decide (k+1<n)||(x.op==50||x.op==34))=R):=⟨_,rfl⟩
 rw[HR.out]
 clear hv ho hx hn hsay hF hlen hG
 go_enter Tryz.func37,Tryz.ntmps37
 go_upto_region 4 with(go_at_call 44;refine(HF.out _).mono ?_;rintro e w4 ⟨rfl,hb4⟩)
 obtain⟨pb,fb,W0,hpb,hfb,hW0,hFN⟩:=fine_fn (F:=F) hb4
 rw[hW0]
 have HFN:=Lib.hid hFN
 obtain⟨z0,z1,z2,z3,z4⟩:=HFN.out.xc
 obtain⟨p0,p1⟩:=HFN.out.pc
 have f0:=HFN.out.fc
 simp only[hpb,hfb]
 have hwe:(⟨⟨F.word⟩⟩:ByteArray).toList.isEmpty=F.word.isEmpty:=by rw[ByteArray.toList_eq]
 have hw:=Qhw.out
 have hat:=Qhat.out
 have h26:=Qh26.out
 have hb:=Qhb.out
 have hta:=Qhta.out
 have htj:=Qhtj.out
 have hlk:=Qhlk.out
 have hty:=Qhty.out
 have ew:F.word.isEmpty=false:=by rw[←HFF.out];exact hw
 have dA:decide (x.at_<0)=false:=decide_eq_false (by omega)
 have dB:decide (60000<x.at_)=false:=decide_eq_false (by omega)
 have db:(x.b !=0)=false:=by simp[hb]
 have e26:(x.op==26)=false:=by simp[h26]
 have hjn:j<n:=by rw[←HN.out];exact(List.getElem?_eq_some_iff.1 htj).1
 have HV0:=Lib.hid (ins_at HCC.out htj).1
 have dk:decide ((j:Int)≤(k:Int))=true:=by simp;omega
 have e1:(y.op !=1)=true:=by simp[hty]
 have e2:(y.op !=2)=false:=by simp[hty]
 clear hFN hW0 hb4 hfb x0 x1 x2 x3 x4 HF
 clear hw hat h26 hb hta htj hlk hty
 go_wp2_with (first
  |(go_at_call 81;refine(numbered_any ((HPV.out.keep fun b hb=>HFN.out.low.block b hb).more HFN.out.low.size) HO.out x).mono ?_;rintro e w6 ⟨rfl,hb6⟩;rw[en];have HFN6:=Lib.hid (HFN.out.under hb6);obtain⟨r0,r1,r2,r3,r4⟩:=HFN6.out.xc;clear hb6)
  |(go_at_call 82;refine(HS.out en _ (HGc.out.up HFN6.out.low)).mono ?_;rintro e w7 ⟨rfl,hb7⟩;rw[es];have HFN7:=Lib.hid (HFN6.out.under hb7);obtain⟨q0,q1,q2,q3,q4⟩:=HFN7.out.xc;clear hb7)
  |(go_at_call 83;refine(goes_any _ _).mono ?_;rintro e w8 ⟨rfl,hb8⟩;rw[eg];have HFN8:=Lib.hid (HFN7.out.under hb8);obtain⟨u0,u1,u2,u3,u4⟩:=HFN8.out.xc;skip;clear hb8;have t0:=(HFN8.out.low.cell (p:=⟨ca,co+j*5,none⟩) hcb).trans HV0.out;rw[Qhta.out] at u1))
 all_goals
  go_ret
  refine⟨ret_bool ?_,(by first|exact HFN8.out.low|(have hlw:=HFN8.out.low;simp only[hpb] at hlw;exact hlw))⟩
  rw[←HR.out]
  try first|rfl|(simp[*];done)|(simp_all;done)|(simp_all;omega)|(rw[Bool.eq_iff_iff];simp;done)|(rw[Bool.eq_iff_iff];simp;omega)|(rw[Bool.eq_iff_iff];simp[*];done)|(rw[Bool.eq_iff_iff];simp[*];omega)
theorem fine_g4 {p:Cp} {v:Value} {w:World} (hG:Gc w) (hv:LiesC w w.heap.size p v) {f k:Nat} {o:Cf} (ho:p.funcs[f]? =some o) {x:Ci} (hx:o.code[k]? =some x) (hlen:o.code.length≤60000) (hsay:numberedB p f x=true→SaysOk x) (hw:(formOf x.op).word.isEmpty=false) (hat:0≤x.at_∧x.at_≤60000) (en:numberedB p f x=true) (es:saysB x=true) (h26:x.op≠26) (hb:x.b=0) (eg:goesB x.op=true) {j:Nat} {y:Ci} (hta:x.a=(j:Int)) (htj:o.code[j]? =some y) (hlk:j≤k) (hty:y.op≠1∧y.op≠2):
  Calls Tryz.prog 37 #[v,.int .i64 f,.int .i64 k] w fun e w'=>e= .returned (.bool false)∧Below w.heap.size w w':=by
 have Qhw:=Lib.hid hw
 have Qhat:=Lib.hid hat
 have Qh26:=Lib.hid h26
 have Qhb:=Lib.hid hb
 have Qhta:=Lib.hid hta
 have Qhtj:=Lib.hid htj
 have Qhlk:=Lib.hid hlk
 have Qhty:=Lib.hid hty
 clear hw hat h26 hb hta htj hlk hty
 have HGc:=Lib.hid hG
 have HO:=Lib.hid ho
 have HS:=Lib.hid hsay
 have HF:=Lib.hid (forms_call x.op)
 obtain⟨F,hF⟩:∃F,formOf x.op=F:=⟨_,rfl⟩
 rw[hF] at HF
 have HFF:=Lib.hid hF
 obtain⟨g,off,m,fc,ga,gc,n,ca,co,cap,rfl,hn,hfl,h5,hkl,hln,c5,hg,hcb,x0,x1,x2,x3,x4,HCC,HPV⟩:=fine_env hv ho hx hlen
 have HN:=Lib.hid hn
 clear hv ho hx hn hsay hF hlen hG
 go_enter Tryz.func37,Tryz.ntmps37
 go_upto_region 4 with(go_at_call 44;refine(HF.out _).mono ?_;rintro e w4 ⟨rfl,hb4⟩)
 obtain⟨pb,fb,W0,hpb,hfb,hW0,hFN⟩:=fine_fn (F:=F) hb4
 rw[hW0]
 have HFN:=Lib.hid hFN
 obtain⟨z0,z1,z2,z3,z4⟩:=HFN.out.xc
 obtain⟨p0,p1⟩:=HFN.out.pc
 have f0:=HFN.out.fc
 simp only[hpb,hfb]
 have hwe:(⟨⟨F.word⟩⟩:ByteArray).toList.isEmpty=F.word.isEmpty:=by rw[ByteArray.toList_eq]
 have hw:=Qhw.out
 have hat:=Qhat.out
 have h26:=Qh26.out
 have hb:=Qhb.out
 have hta:=Qhta.out
 have htj:=Qhtj.out
 have hlk:=Qhlk.out
 have hty:=Qhty.out
 have ew:F.word.isEmpty=false:=by rw[←HFF.out];exact hw
 have dA:decide (x.at_<0)=false:=decide_eq_false (by omega)
 have dB:decide (60000<x.at_)=false:=decide_eq_false (by omega)
 have db:(x.b !=0)=false:=by simp[hb]
 have e26:(x.op==26)=false:=by simp[h26]
 have hjn:j<n:=by rw[←HN.out];exact(List.getElem?_eq_some_iff.1 htj).1
 have HV0:=Lib.hid (ins_at HCC.out htj).1
 have dk:decide ((j:Int)≤(k:Int))=true:=by simp;omega
 have e1:(y.op !=1)=true:=by simp[hty.1]
 have e2:(y.op !=2)=true:=by simp[hty.2]
 clear hFN hW0 hb4 hfb x0 x1 x2 x3 x4 HF
 clear hw hat h26 hb hta htj hlk hty
 go_wp2_with (first
  |(go_at_call 81;refine(numbered_any ((HPV.out.keep fun b hb=>HFN.out.low.block b hb).more HFN.out.low.size) HO.out x).mono ?_;rintro e w6 ⟨rfl,hb6⟩;rw[en];have HFN6:=Lib.hid (HFN.out.under hb6);obtain⟨r0,r1,r2,r3,r4⟩:=HFN6.out.xc;clear hb6)
  |(go_at_call 82;refine(HS.out en _ (HGc.out.up HFN6.out.low)).mono ?_;rintro e w7 ⟨rfl,hb7⟩;rw[es];have HFN7:=Lib.hid (HFN6.out.under hb7);obtain⟨q0,q1,q2,q3,q4⟩:=HFN7.out.xc;clear hb7)
  |(go_at_call 83;refine(goes_any _ _).mono ?_;rintro e w8 ⟨rfl,hb8⟩;rw[eg];have HFN8:=Lib.hid (HFN7.out.under hb8);obtain⟨u0,u1,u2,u3,u4⟩:=HFN8.out.xc;skip;clear hb8;have t0:=(HFN8.out.low.cell (p:=⟨ca,co+j*5,none⟩) hcb).trans HV0.out;rw[Qhta.out] at u1))
 all_goals
  go_ret
  exact⟨ret_bool (by first|rfl|(simp[*];done)|(simp_all;done)|(simp_all;omega)|(rw[Bool.eq_iff_iff];simp;done)|(rw[Bool.eq_iff_iff];simp;omega)|(rw[Bool.eq_iff_iff];simp[*];done)|(rw[Bool.eq_iff_iff];simp[*];omega)),(by first|exact HFN8.out.low|(have hlw:=HFN8.out.low;simp only[hpb] at hlw;exact hlw))⟩
end Go.Proofs.YtagnicbknbmccaaGreatDoor
