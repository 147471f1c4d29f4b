/- code.fine of any instruction. code.fine of any instruction. code.fine of any instruction. code.fine of any instruction: fineB. code.Right of any program: what it answers is rightC. -/
import Derived.Test.YtagnicbknbmccaaGreatDoorMCxA
import Derived.Test.YtagnicbknbmccaaGreatDoorCzM
import Derived.Test.YtagnicbknbmccaaGreatDoorMCzP
import Derived.Test.YtagnicbknbmccaaGreatDoorMCxH
import Derived.Test.YtagnicbknbmccaaGreatDoorMCwP
import Derived.Test.YtagnicbknbmccaaGreatDoorMCxD
set_option maxRecDepth 100000
set_option maxHeartbeats 4000000
namespace Go.Proofs.YtagnicbknbmccaaGreatDoor
open Go.RowKit
theorem fine_noword {p:Cp} {v:Value} {w:World} (hG:Gc w) (hv:LiesC w w.heap.size p v) {f k:Nat} {o:Cf} (ho:p.funcs[f]? =some o) {x:Ci} (hx:o.code[k]? =some x) (hlen:o.code.length≤60000) (hsay:numberedB p f x=true→SaysOk x) (hw:(formOf x.op).word.isEmpty=true):
  Calls Tryz.prog 37 #[v,.int .i64 f,.int .i64 k] w fun e w'=>e= .returned (.bool false)∧Below w.heap.size w w':=by
 have Qhw:=Lib.hid hw
 clear hw
 have HGc:=Lib.hid hG
 have HO:=Lib.hid ho
 have HS:=Lib.hid hsay
 have HF:=Lib.hid (forms_call x.op)
 obtain⟨F,hF⟩:∃F,formOf x.op=F:=⟨_,rfl⟩
 rw[hF] at HF
 have HFF:=Lib.hid hF
 obtain⟨g,off,m,fc,ga,gc,n,ca,co,cap,rfl,hn,hfl,h5,hkl,hln,c5,hg,hcb,x0,x1,x2,x3,x4,HCC,HPV⟩:=fine_env hv ho hx hlen
 have HN:=Lib.hid hn
 clear hv ho hx hn hsay hF hlen hG
 go_enter Tryz.func37,Tryz.ntmps37
 go_upto_region 4 with(go_at_call 44;refine(HF.out _).mono ?_;rintro e w4 ⟨rfl,hb4⟩)
 obtain⟨pb,fb,W0,hpb,hfb,hW0,hFN⟩:=fine_fn (F:=F) hb4
 rw[hW0]
 have HFN:=Lib.hid hFN
 obtain⟨z0,z1,z2,z3,z4⟩:=HFN.out.xc
 obtain⟨p0,p1⟩:=HFN.out.pc
 have f0:=HFN.out.fc
 simp only[hpb,hfb]
 have hwe:(⟨⟨F.word⟩⟩:ByteArray).toList.isEmpty=F.word.isEmpty:=by rw[ByteArray.toList_eq]
 have hw:=Qhw.out
 have ew:F.word.isEmpty=true:=by rw[←HFF.out];exact hw
 clear hFN hW0 hb4 hfb x0 x1 x2 x3 x4 HF
 clear hw
 go_wp2_with fail
 all_goals
  go_ret
  exact⟨ret_bool (by first|rfl|(simp[*];done)|(simp_all;done)|(simp_all;omega)|(rw[Bool.eq_iff_iff];simp;done)|(rw[Bool.eq_iff_iff];simp;omega)|(rw[Bool.eq_iff_iff];simp[*];done)|(rw[Bool.eq_iff_iff];simp[*];omega)),(by first|exact HFN.out.low|(have hlw:=HFN.out.low;simp only[hpb] at hlw;exact hlw))⟩
theorem fine_before {p:Cp} {v:Value} {w:World} (hG:Gc w) (hv:LiesC w w.heap.size p v) {f k:Nat} {o:Cf} (ho:p.funcs[f]? =some o) {x:Ci} (hx:o.code[k]? =some x) (hlen:o.code.length≤60000) (hsay:numberedB p f x=true→SaysOk x) (hw:(formOf x.op).word.isEmpty=false) (hat:x.at_<0):
  Calls Tryz.prog 37 #[v,.int .i64 f,.int .i64 k] w fun e w'=>e= .returned (.bool false)∧Below w.heap.size w w':=by
 have Qhw:=Lib.hid hw
 have Qhat:=Lib.hid hat
 clear hw hat
 have HGc:=Lib.hid hG
 have HO:=Lib.hid ho
 have HS:=Lib.hid hsay
 have HF:=Lib.hid (forms_call x.op)
 obtain⟨F,hF⟩:∃F,formOf x.op=F:=⟨_,rfl⟩
 rw[hF] at HF
 have HFF:=Lib.hid hF
 obtain⟨g,off,m,fc,ga,gc,n,ca,co,cap,rfl,hn,hfl,h5,hkl,hln,c5,hg,hcb,x0,x1,x2,x3,x4,HCC,HPV⟩:=fine_env hv ho hx hlen
 have HN:=Lib.hid hn
 clear hv ho hx hn hsay hF hlen hG
 go_enter Tryz.func37,Tryz.ntmps37
 go_upto_region 4 with(go_at_call 44;refine(HF.out _).mono ?_;rintro e w4 ⟨rfl,hb4⟩)
 obtain⟨pb,fb,W0,hpb,hfb,hW0,hFN⟩:=fine_fn (F:=F) hb4
 rw[hW0]
 have HFN:=Lib.hid hFN
 obtain⟨z0,z1,z2,z3,z4⟩:=HFN.out.xc
 obtain⟨p0,p1⟩:=HFN.out.pc
 have f0:=HFN.out.fc
 simp only[hpb,hfb]
 have hwe:(⟨⟨F.word⟩⟩:ByteArray).toList.isEmpty=F.word.isEmpty:=by rw[ByteArray.toList_eq]
 have hw:=Qhw.out
 have hat:=Qhat.out
 have ew:F.word.isEmpty=false:=by rw[←HFF.out];exact hw
 have dA:decide (x.at_<0)=true:=decide_eq_true hat
 clear hFN hW0 hb4 hfb x0 x1 x2 x3 x4 HF
 clear hw hat
 go_wp2_with fail
 all_goals
  go_ret
  exact⟨ret_bool (by first|rfl|(simp[*];done)|(simp_all;done)|(simp_all;omega)|(rw[Bool.eq_iff_iff];simp;done)|(rw[Bool.eq_iff_iff];simp;omega)|(rw[Bool.eq_iff_iff];simp[*];done)|(rw[Bool.eq_iff_iff];simp[*];omega)),(by first|exact HFN.out.low|(have hlw:=HFN.out.low;simp only[hpb] at hlw;exact hlw))⟩
theorem fine_behind {p:Cp} {v:Value} {w:World} (hG:Gc w) (hv:LiesC w w.heap.size p v) {f k:Nat} {o:Cf} (ho:p.funcs[f]? =some o) {x:Ci} (hx:o.code[k]? =some x) (hlen:o.code.length≤60000) (hsay:numberedB p f x=true→SaysOk x) (hw:(formOf x.op).word.isEmpty=false) (hat:60000<x.at_):
  Calls Tryz.prog 37 #[v,.int .i64 f,.int .i64 k] w fun e w'=>e= .returned (.bool false)∧Below w.heap.size w w':=by
 have Qhw:=Lib.hid hw
 have Qhat:=Lib.hid hat
 clear hw hat
 have HGc:=Lib.hid hG
 have HO:=Lib.hid ho
 have HS:=Lib.hid hsay
 have HF:=Lib.hid (forms_call x.op)
 obtain⟨F,hF⟩:∃F,formOf x.op=F:=⟨_,rfl⟩
 rw[hF] at HF
 have HFF:=Lib.hid hF
 obtain⟨g,off,m,fc,ga,gc,n,ca,co,cap,rfl,hn,hfl,h5,hkl,hln,c5,hg,hcb,x0,x1,x2,x3,x4,HCC,HPV⟩:=fine_env hv ho hx hlen
 have HN:=Lib.hid hn
 clear hv ho hx hn hsay hF hlen hG
 go_enter Tryz.func37,Tryz.ntmps37
 go_upto_region 4 with(go_at_call 44;refine(HF.out _).mono ?_;rintro e w4 ⟨rfl,hb4⟩)
 obtain⟨pb,fb,W0,hpb,hfb,hW0,hFN⟩:=fine_fn (F:=F) hb4
 rw[hW0]
 have HFN:=Lib.hid hFN
 obtain⟨z0,z1,z2,z3,z4⟩:=HFN.out.xc
 obtain⟨p0,p1⟩:=HFN.out.pc
 have f0:=HFN.out.fc
 simp only[hpb,hfb]
 have hwe:(⟨⟨F.word⟩⟩:ByteArray).toList.isEmpty=F.word.isEmpty:=by rw[ByteArray.toList_eq]
 have hw:=Qhw.out
 have hat:=Qhat.out
 have ew:F.word.isEmpty=false:=by rw[←HFF.out];exact hw
 have dA:decide (x.at_<0)=false:=decide_eq_false (by omega)
 have dB:decide (60000<x.at_)=true:=decide_eq_true hat
 clear hFN hW0 hb4 hfb x0 x1 x2 x3 x4 HF
 clear hw hat
 go_wp2_with fail
 all_goals
  go_ret
  exact⟨ret_bool (by first|rfl|(simp[*];done)|(simp_all;done)|(simp_all;omega)|(rw[Bool.eq_iff_iff];simp;done)|(rw[Bool.eq_iff_iff];simp;omega)|(rw[Bool.eq_iff_iff];simp[*];done)|(rw[Bool.eq_iff_iff];simp[*];omega)),(by first|exact HFN.out.low|(have hlw:=HFN.out.low;simp only[hpb] at hlw;exact hlw))⟩
theorem fine_number {p:Cp} {v:Value} {w:World} (hG:Gc w) (hv:LiesC w w.heap.size p v) {f k:Nat} {o:Cf} (ho:p.funcs[f]? =some o) {x:Ci} (hx:o.code[k]? =some x) (hlen:o.code.length≤60000) (hsay:numberedB p f x=true→SaysOk x) (hw:(formOf x.op).word.isEmpty=false) (hat:0≤x.at_∧x.at_≤60000) (en:numberedB p f x=false):
  Calls Tryz.prog 37 #[v,.int .i64 f,.int .i64 k] w fun e w'=>e= .returned (.bool false)∧Below w.heap.size w w':=by
 have Qhw:=Lib.hid hw
 have Qhat:=Lib.hid hat
 clear hw hat
 have HGc:=Lib.hid hG
 have HO:=Lib.hid ho
 have HS:=Lib.hid hsay
 have HF:=Lib.hid (forms_call x.op)
 obtain⟨F,hF⟩:∃F,formOf x.op=F:=⟨_,rfl⟩
 rw[hF] at HF
 have HFF:=Lib.hid hF
 obtain⟨g,off,m,fc,ga,gc,n,ca,co,cap,rfl,hn,hfl,h5,hkl,hln,c5,hg,hcb,x0,x1,x2,x3,x4,HCC,HPV⟩:=fine_env hv ho hx hlen
 have HN:=Lib.hid hn
 clear hv ho hx hn hsay hF hlen hG
 go_enter Tryz.func37,Tryz.ntmps37
 go_upto_region 4 with(go_at_call 44;refine(HF.out _).mono ?_;rintro e w4 ⟨rfl,hb4⟩)
 obtain⟨pb,fb,W0,hpb,hfb,hW0,hFN⟩:=fine_fn (F:=F) hb4
 rw[hW0]
 have HFN:=Lib.hid hFN
 obtain⟨z0,z1,z2,z3,z4⟩:=HFN.out.xc
 obtain⟨p0,p1⟩:=HFN.out.pc
 have f0:=HFN.out.fc
 simp only[hpb,hfb]
 have hwe:(⟨⟨F.word⟩⟩:ByteArray).toList.isEmpty=F.word.isEmpty:=by rw[ByteArray.toList_eq]
 have hw:=Qhw.out
 have hat:=Qhat.out
 have ew:F.word.isEmpty=false:=by rw[←HFF.out];exact hw
 have dA:decide (x.at_<0)=false:=decide_eq_false (by omega)
 have dB:decide (60000<x.at_)=false:=decide_eq_false (by omega)
 clear hFN hW0 hb4 hfb x0 x1 x2 x3 x4 HF
 clear hw hat
 go_wp2_with (first
  |(go_at_call 81;refine(numbered_any ((HPV.out.keep fun b hb=>HFN.out.low.block b hb).more HFN.out.low.size) HO.out x).mono ?_;rintro e w6 ⟨rfl,hb6⟩;rw[en];have HFN6:=Lib.hid (HFN.out.under hb6);obtain⟨r0,r1,r2,r3,r4⟩:=HFN6.out.xc;clear hb6))
 all_goals
  go_ret
  exact⟨ret_bool (by first|rfl|(simp[*];done)|(simp_all;done)|(simp_all;omega)|(rw[Bool.eq_iff_iff];simp;done)|(rw[Bool.eq_iff_iff];simp;omega)|(rw[Bool.eq_iff_iff];simp[*];done)|(rw[Bool.eq_iff_iff];simp[*];omega)),(by first|exact HFN6.out.low|(have hlw:=HFN6.out.low;simp only[hpb] at hlw;exact hlw))⟩
theorem fine_text {p:Cp} {v:Value} {w:World} (hG:Gc w) (hv:LiesC w w.heap.size p v) {f k:Nat} {o:Cf} (ho:p.funcs[f]? =some o) {x:Ci} (hx:o.code[k]? =some x) (hlen:o.code.length≤60000) (hsay:numberedB p f x=true→SaysOk x) (hw:(formOf x.op).word.isEmpty=false) (hat:0≤x.at_∧x.at_≤60000) (en:numberedB p f x=true) (es:saysB x=false):
  Calls Tryz.prog 37 #[v,.int .i64 f,.int .i64 k] w fun e w'=>e= .returned (.bool false)∧Below w.heap.size w w':=by
 have Qhw:=Lib.hid hw
 have Qhat:=Lib.hid hat
 clear hw hat
 have HGc:=Lib.hid hG
 have HO:=Lib.hid ho
 have HS:=Lib.hid hsay
 have HF:=Lib.hid (forms_call x.op)
 obtain⟨F,hF⟩:∃F,formOf x.op=F:=⟨_,rfl⟩
 rw[hF] at HF
 have HFF:=Lib.hid hF
 obtain⟨g,off,m,fc,ga,gc,n,ca,co,cap,rfl,hn,hfl,h5,hkl,hln,c5,hg,hcb,x0,x1,x2,x3,x4,HCC,HPV⟩:=fine_env hv ho hx hlen
 have HN:=Lib.hid hn
 clear hv ho hx hn hsay hF hlen hG
 go_enter Tryz.func37,Tryz.ntmps37
 go_upto_region 4 with(go_at_call 44;refine(HF.out _).mono ?_;rintro e w4 ⟨rfl,hb4⟩)
 obtain⟨pb,fb,W0,hpb,hfb,hW0,hFN⟩:=fine_fn (F:=F) hb4
 rw[hW0]
 have HFN:=Lib.hid hFN
 obtain⟨z0,z1,z2,z3,z4⟩:=HFN.out.xc
 obtain⟨p0,p1⟩:=HFN.out.pc
 have f0:=HFN.out.fc
 simp only[hpb,hfb]
 have hwe:(⟨⟨F.word⟩⟩:ByteArray).toList.isEmpty=F.word.isEmpty:=by rw[ByteArray.toList_eq]
 have hw:=Qhw.out
 have hat:=Qhat.out
 have ew:F.word.isEmpty=false:=by rw[←HFF.out];exact hw
 have dA:decide (x.at_<0)=false:=decide_eq_false (by omega)
 have dB:decide (60000<x.at_)=false:=decide_eq_false (by omega)
 clear hFN hW0 hb4 hfb x0 x1 x2 x3 x4 HF
 clear hw hat
 go_wp2_with (first
  |(go_at_call 81;refine(numbered_any ((HPV.out.keep fun b hb=>HFN.out.low.block b hb).more HFN.out.low.size) HO.out x).mono ?_;rintro e w6 ⟨rfl,hb6⟩;rw[en];have HFN6:=Lib.hid (HFN.out.under hb6);obtain⟨r0,r1,r2,r3,r4⟩:=HFN6.out.xc;clear hb6)
  |(go_at_call 82;refine(HS.out en _ (HGc.out.up HFN6.out.low)).mono ?_;rintro e w7 ⟨rfl,hb7⟩;rw[es];have HFN7:=Lib.hid (HFN6.out.under hb7);obtain⟨q0,q1,q2,q3,q4⟩:=HFN7.out.xc;clear hb7))
 all_goals
  go_ret
  exact⟨ret_bool (by first|rfl|(simp[*];done)|(simp_all;done)|(simp_all;omega)|(rw[Bool.eq_iff_iff];simp;done)|(rw[Bool.eq_iff_iff];simp;omega)|(rw[Bool.eq_iff_iff];simp[*];done)|(rw[Bool.eq_iff_iff];simp[*];omega)),(by first|exact HFN7.out.low|(have hlw:=HFN7.out.low;simp only[hpb] at hlw;exact hlw))⟩
theorem fine_n2 {p:Cp} {v:Value} {w:World} (hG:Gc w) (hv:LiesC w w.heap.size p v) {f k:Nat} {o:Cf} (ho:p.funcs[f]? =some o) {x:Ci} (hx:o.code[k]? =some x) (hlen:o.code.length≤60000) (hsay:numberedB p f x=true→SaysOk x) (hw:(formOf x.op).word.isEmpty=false) (hat:0≤x.at_∧x.at_≤60000) (en:numberedB p f x=true) (es:saysB x=true) (h26:x.op=26) (hb:x.b=0) (ha:x.a≠2) (eg:goesB x.op=false):
  Calls Tryz.prog 37 #[v,.int .i64 f,.int .i64 k] w fun e w'=>e= .returned (.bool (decide (k+1<o.code.length)||(x.op==50||x.op==34)))∧Below w.heap.size w w':=by
 have Qhw:=Lib.hid hw
 have Qhat:=Lib.hid hat
 have Qh26:=Lib.hid h26
 have Qhb:=Lib.hid hb
 have Qha:=Lib.hid ha
 clear hw hat h26 hb ha
 have HGc:=Lib.hid hG
 have HO:=Lib.hid ho
 have HS:=Lib.hid hsay
 have HF:=Lib.hid (forms_call x.op)
 obtain⟨F,hF⟩:∃F,formOf x.op=F:=⟨_,rfl⟩
 rw[hF] at HF
 have HFF:=Lib.hid hF
 obtain⟨g,off,m,fc,ga,gc,n,ca,co,cap,rfl,hn,hfl,h5,hkl,hln,c5,hg,hcb,x0,x1,x2,x3,x4,HCC,HPV⟩:=fine_env hv ho hx hlen
 have HN:=Lib.hid hn
 rw[hn]
 obtain⟨R,HR⟩:∃R,Hid ((decide (k+1<n)||(x.op==50||x.op==34))=R):=⟨_,rfl⟩
 rw[HR.out]
 clear hv ho hx hn hsay hF hlen hG
 go_enter Tryz.func37,Tryz.ntmps37
 go_upto_region 4 with(go_at_call 44;refine(HF.out _).mono ?_;rintro e w4 ⟨rfl,hb4⟩)
 obtain⟨pb,fb,W0,hpb,hfb,hW0,hFN⟩:=fine_fn (F:=F) hb4
 rw[hW0]
 have HFN:=Lib.hid hFN
 obtain⟨z0,z1,z2,z3,z4⟩:=HFN.out.xc
 obtain⟨p0,p1⟩:=HFN.out.pc
 have f0:=HFN.out.fc
 simp only[hpb,hfb]
 have hwe:(⟨⟨F.word⟩⟩:ByteArray).toList.isEmpty=F.word.isEmpty:=by rw[ByteArray.toList_eq]
 have hw:=Qhw.out
 have hat:=Qhat.out
 have h26:=Qh26.out
 have hb:=Qhb.out
 have ha:=Qha.out
 have ew:F.word.isEmpty=false:=by rw[←HFF.out];exact hw
 have dA:decide (x.at_<0)=false:=decide_eq_false (by omega)
 have dB:decide (60000<x.at_)=false:=decide_eq_false (by omega)
 have db:(x.b !=0)=false:=by simp[hb]
 have e26:(x.op==26)=true:=by simp[h26]
 have db1:(x.b==1)=false:=by simp[hb]
 have da:(x.a==2)=false:=by simp[ha]
 clear hFN hW0 hb4 hfb x0 x1 x2 x3 x4 HF
 clear hw hat h26 hb ha
 go_wp2_with (first
  |(go_at_call 81;refine(numbered_any ((HPV.out.keep fun b hb=>HFN.out.low.block b hb).more HFN.out.low.size) HO.out x).mono ?_;rintro e w6 ⟨rfl,hb6⟩;rw[en];have HFN6:=Lib.hid (HFN.out.under hb6);obtain⟨r0,r1,r2,r3,r4⟩:=HFN6.out.xc;clear hb6)
  |(go_at_call 82;refine(HS.out en _ (HGc.out.up HFN6.out.low)).mono ?_;rintro e w7 ⟨rfl,hb7⟩;rw[es];have HFN7:=Lib.hid (HFN6.out.under hb7);obtain⟨q0,q1,q2,q3,q4⟩:=HFN7.out.xc;clear hb7)
  |(go_at_call 83;refine(goes_any _ _).mono ?_;rintro e w8 ⟨rfl,hb8⟩;rw[eg];have HFN8:=Lib.hid (HFN7.out.under hb8);obtain⟨u0,u1,u2,u3,u4⟩:=HFN8.out.xc;skip;clear hb8))
 all_goals
  go_ret
  refine⟨ret_bool ?_,(by first|exact HFN8.out.low|(have hlw:=HFN8.out.low;simp only[hpb] at hlw;exact hlw))⟩
  rw[←HR.out]
  try first|rfl|(simp[*];done)|(simp_all;done)|(simp_all;omega)|(rw[Bool.eq_iff_iff];simp;done)|(rw[Bool.eq_iff_iff];simp;omega)|(rw[Bool.eq_iff_iff];simp[*];done)|(rw[Bool.eq_iff_iff];simp[*];omega)
theorem fine_n3 {p:Cp} {v:Value} {w:World} (hG:Gc w) (hv:LiesC w w.heap.size p v) {f k:Nat} {o:Cf} (ho:p.funcs[f]? =some o) {x:Ci} (hx:o.code[k]? =some x) (hlen:o.code.length≤60000) (hsay:numberedB p f x=true→SaysOk x) (hw:(formOf x.op).word.isEmpty=false) (hat:0≤x.at_∧x.at_≤60000) (en:numberedB p f x=true) (es:saysB x=true) (h26:x.op=26) (hb:x.b=0) (ha:x.a=2) (eg:goesB x.op=false):
  Calls Tryz.prog 37 #[v,.int .i64 f,.int .i64 k] w fun e w'=>e= .returned (.bool (decide (k+1<o.code.length)||(x.op==50||x.op==34)))∧Below w.heap.size w w':=by
 have Qhw:=Lib.hid hw
 have Qhat:=Lib.hid hat
 have Qh26:=Lib.hid h26
 have Qhb:=Lib.hid hb
 have Qha:=Lib.hid ha
 clear hw hat h26 hb ha
 have HGc:=Lib.hid hG
 have HO:=Lib.hid ho
 have HS:=Lib.hid hsay
 have HF:=Lib.hid (forms_call x.op)
 obtain⟨F,hF⟩:∃F,formOf x.op=F:=⟨_,rfl⟩
 rw[hF] at HF
 have HFF:=Lib.hid hF
 obtain⟨g,off,m,fc,ga,gc,n,ca,co,cap,rfl,hn,hfl,h5,hkl,hln,c5,hg,hcb,x0,x1,x2,x3,x4,HCC,HPV⟩:=fine_env hv ho hx hlen
 have HN:=Lib.hid hn
 rw[hn]
 obtain⟨R,HR⟩:∃R,Hid ((decide (k+1<n)||(x.op==50||x.op==34))=R):=⟨_,rfl⟩
 rw[HR.out]
 clear hv ho hx hn hsay hF hlen hG
 go_enter Tryz.func37,Tryz.ntmps37
 go_upto_region 4 with(go_at_call 44;refine(HF.out _).mono ?_;rintro e w4 ⟨rfl,hb4⟩)
 obtain⟨pb,fb,W0,hpb,hfb,hW0,hFN⟩:=fine_fn (F:=F) hb4
 rw[hW0]
 have HFN:=Lib.hid hFN
 obtain⟨z0,z1,z2,z3,z4⟩:=HFN.out.xc
 obtain⟨p0,p1⟩:=HFN.out.pc
 have f0:=HFN.out.fc
 simp only[hpb,hfb]
 have hwe:(⟨⟨F.word⟩⟩:ByteArray).toList.isEmpty=F.word.isEmpty:=by rw[ByteArray.toList_eq]
 have hw:=Qhw.out
 have hat:=Qhat.out
 have h26:=Qh26.out
 have hb:=Qhb.out
 have ha:=Qha.out
 have ew:F.word.isEmpty=false:=by rw[←HFF.out];exact hw
 have dA:decide (x.at_<0)=false:=decide_eq_false (by omega)
 have dB:decide (60000<x.at_)=false:=decide_eq_false (by omega)
 have db:(x.b !=0)=false:=by simp[hb]
 have e26:(x.op==26)=true:=by simp[h26]
 have db1:(x.b==1)=false:=by simp[hb]
 have da:(x.a==2)=true:=by simp[ha]
 have db2:(x.b==2)=false:=by simp[hb]
 have db3:(x.b==3)=false:=by simp[hb]
 clear hFN hW0 hb4 hfb x0 x1 x2 x3 x4 HF
 clear hw hat h26 hb ha
 go_wp2_with (first
  |(go_at_call 81;refine(numbered_any ((HPV.out.keep fun b hb=>HFN.out.low.block b hb).more HFN.out.low.size) HO.out x).mono ?_;rintro e w6 ⟨rfl,hb6⟩;rw[en];have HFN6:=Lib.hid (HFN.out.under hb6);obtain⟨r0,r1,r2,r3,r4⟩:=HFN6.out.xc;clear hb6)
  |(go_at_call 82;refine(HS.out en _ (HGc.out.up HFN6.out.low)).mono ?_;rintro e w7 ⟨rfl,hb7⟩;rw[es];have HFN7:=Lib.hid (HFN6.out.under hb7);obtain⟨q0,q1,q2,q3,q4⟩:=HFN7.out.xc;clear hb7)
  |(go_at_call 83;refine(goes_any _ _).mono ?_;rintro e w8 ⟨rfl,hb8⟩;rw[eg];have HFN8:=Lib.hid (HFN7.out.under hb8);obtain⟨u0,u1,u2,u3,u4⟩:=HFN8.out.xc;skip;clear hb8))
 all_goals
  go_ret
  refine⟨ret_bool ?_,(by first|exact HFN8.out.low|(have hlw:=HFN8.out.low;simp only[hpb] at hlw;exact hlw))⟩
  rw[←HR.out]
  try first|rfl|(simp[*];done)|(simp_all;done)|(simp_all;omega)|(rw[Bool.eq_iff_iff];simp;done)|(rw[Bool.eq_iff_iff];simp;omega)|(rw[Bool.eq_iff_iff];simp[*];done)|(rw[Bool.eq_iff_iff];simp[*];omega)
theorem fine_n4 {p:Cp} {v:Value} {w:World} (hG:Gc w) (hv:LiesC w w.heap.size p v) {f k:Nat} {o:Cf} (ho:p.funcs[f]? =some o) {x:Ci} (hx:o.code[k]? =some x) (hlen:o.code.length≤60000) (hsay:numberedB p f x=true→SaysOk x) (hw:(formOf x.op).word.isEmpty=false) (hat:0≤x.at_∧x.at_≤60000) (en:numberedB p f x=true) (es:saysB x=true) (h26:x.op=26) (hb:x.b=1) (eg:goesB x.op=false):
  Calls Tryz.prog 37 #[v,.int .i64 f,.int .i64 k] w fun e w'=>e= .returned (.bool (decide (k+1<o.code.length)||(x.op==50||x.op==34)))∧Below w.heap.size w w':=by
 have Qhw:=Lib.hid hw
 have Qhat:=Lib.hid hat
 have Qh26:=Lib.hid h26
 have Qhb:=Lib.hid hb
 clear hw hat h26 hb
 have HGc:=Lib.hid hG
 have HO:=Lib.hid ho
 have HS:=Lib.hid hsay
 have HF:=Lib.hid (forms_call x.op)
 obtain⟨F,hF⟩:∃F,formOf x.op=F:=⟨_,rfl⟩
 rw[hF] at HF
 have HFF:=Lib.hid hF
 obtain⟨g,off,m,fc,ga,gc,n,ca,co,cap,rfl,hn,hfl,h5,hkl,hln,c5,hg,hcb,x0,x1,x2,x3,x4,HCC,HPV⟩:=fine_env hv ho hx hlen
 have HN:=Lib.hid hn
 rw[hn]
 obtain⟨R,HR⟩:∃R,Hid ((decide (k+1<n)||(x.op==50||x.op==34))=R):=⟨_,rfl⟩
 rw[HR.out]
 clear hv ho hx hn hsay hF hlen hG
 go_enter Tryz.func37,Tryz.ntmps37
 go_upto_region 4 with(go_at_call 44;refine(HF.out _).mono ?_;rintro e w4 ⟨rfl,hb4⟩)
 obtain⟨pb,fb,W0,hpb,hfb,hW0,hFN⟩:=fine_fn (F:=F) hb4
 rw[hW0]
 have HFN:=Lib.hid hFN
 obtain⟨z0,z1,z2,z3,z4⟩:=HFN.out.xc
 obtain⟨p0,p1⟩:=HFN.out.pc
 have f0:=HFN.out.fc
 simp only[hpb,hfb]
 have hwe:(⟨⟨F.word⟩⟩:ByteArray).toList.isEmpty=F.word.isEmpty:=by rw[ByteArray.toList_eq]
 have hw:=Qhw.out
 have hat:=Qhat.out
 have h26:=Qh26.out
 have hb:=Qhb.out
 have ew:F.word.isEmpty=false:=by rw[←HFF.out];exact hw
 have dA:decide (x.at_<0)=false:=decide_eq_false (by omega)
 have dB:decide (60000<x.at_)=false:=decide_eq_false (by omega)
 have e26:(x.op==26)=true:=by simp[h26]
 have db:(x.b !=0)=true:=by simp[hb]
 have db1:(x.b==1)=true:=by simp[hb]
 clear hFN hW0 hb4 hfb x0 x1 x2 x3 x4 HF
 clear hw hat h26 hb
 go_wp2_with (first
  |(go_at_call 81;refine(numbered_any ((HPV.out.keep fun b hb=>HFN.out.low.block b hb).more HFN.out.low.size) HO.out x).mono ?_;rintro e w6 ⟨rfl,hb6⟩;rw[en];have HFN6:=Lib.hid (HFN.out.under hb6);obtain⟨r0,r1,r2,r3,r4⟩:=HFN6.out.xc;clear hb6)
  |(go_at_call 82;refine(HS.out en _ (HGc.out.up HFN6.out.low)).mono ?_;rintro e w7 ⟨rfl,hb7⟩;rw[es];have HFN7:=Lib.hid (HFN6.out.under hb7);obtain⟨q0,q1,q2,q3,q4⟩:=HFN7.out.xc;clear hb7)
  |(go_at_call 83;refine(goes_any _ _).mono ?_;rintro e w8 ⟨rfl,hb8⟩;rw[eg];have HFN8:=Lib.hid (HFN7.out.under hb8);obtain⟨u0,u1,u2,u3,u4⟩:=HFN8.out.xc;skip;clear hb8))
 all_goals
  go_ret
  refine⟨ret_bool ?_,(by first|exact HFN8.out.low|(have hlw:=HFN8.out.low;simp only[hpb] at hlw;exact hlw))⟩
  rw[←HR.out]
  try first|rfl|(simp[*];done)|(simp_all;done)|(simp_all;omega)|(rw[Bool.eq_iff_iff];simp;done)|(rw[Bool.eq_iff_iff];simp;omega)|(rw[Bool.eq_iff_iff];simp[*];done)|(rw[Bool.eq_iff_iff];simp[*];omega)
theorem fine_n5 {p:Cp} {v:Value} {w:World} (hG:Gc w) (hv:LiesC w w.heap.size p v) {f k:Nat} {o:Cf} (ho:p.funcs[f]? =some o) {x:Ci} (hx:o.code[k]? =some x) (hlen:o.code.length≤60000) (hsay:numberedB p f x=true→SaysOk x) (hw:(formOf x.op).word.isEmpty=false) (hat:0≤x.at_∧x.at_≤60000) (en:numberedB p f x=true) (es:saysB x=true) (h26:x.op=26) (ha:x.a=2) (hb:x.b=2) (eg:goesB x.op=false):
  Calls Tryz.prog 37 #[v,.int .i64 f,.int .i64 k] w fun e w'=>e= .returned (.bool (decide (k+1<o.code.length)||(x.op==50||x.op==34)))∧Below w.heap.size w w':=by
 have Qhw:=Lib.hid hw
 have Qhat:=Lib.hid hat
 have Qh26:=Lib.hid h26
 have Qha:=Lib.hid ha
 have Qhb:=Lib.hid hb
 clear hw hat h26 ha hb
 have HGc:=Lib.hid hG
 have HO:=Lib.hid ho
 have HS:=Lib.hid hsay
 have HF:=Lib.hid (forms_call x.op)
 obtain⟨F,hF⟩:∃F,formOf x.op=F:=⟨_,rfl⟩
 rw[hF] at HF
 have HFF:=Lib.hid hF
 obtain⟨g,off,m,fc,ga,gc,n,ca,co,cap,rfl,hn,hfl,h5,hkl,hln,c5,hg,hcb,x0,x1,x2,x3,x4,HCC,HPV⟩:=fine_env hv ho hx hlen
 have HN:=Lib.hid hn
 rw[hn]
 obtain⟨R,HR⟩:∃R,Hid ((decide (k+1<n)||(x.op==50||x.op==34))=R):=⟨_,rfl⟩
 rw[HR.out]
 clear hv ho hx hn hsay hF hlen hG
 go_enter Tryz.func37,Tryz.ntmps37
 go_upto_region 4 with(go_at_call 44;refine(HF.out _).mono ?_;rintro e w4 ⟨rfl,hb4⟩)
 obtain⟨pb,fb,W0,hpb,hfb,hW0,hFN⟩:=fine_fn (F:=F) hb4
 rw[hW0]
 have HFN:=Lib.hid hFN
 obtain⟨z0,z1,z2,z3,z4⟩:=HFN.out.xc
 obtain⟨p0,p1⟩:=HFN.out.pc
 have f0:=HFN.out.fc
 simp only[hpb,hfb]
 have hwe:(⟨⟨F.word⟩⟩:ByteArray).toList.isEmpty=F.word.isEmpty:=by rw[ByteArray.toList_eq]
 have hw:=Qhw.out
 have hat:=Qhat.out
 have h26:=Qh26.out
 have ha:=Qha.out
 have hb:=Qhb.out
 have ew:F.word.isEmpty=false:=by rw[←HFF.out];exact hw
 have dA:decide (x.at_<0)=false:=decide_eq_false (by omega)
 have dB:decide (60000<x.at_)=false:=decide_eq_false (by omega)
 have e26:(x.op==26)=true:=by simp[h26]
 have db:(x.b !=0)=true:=by simp[hb]
 have db1:(x.b==1)=false:=by simp[hb]
 have da:(x.a==2)=true:=by simp[ha]
 have db2:(x.b==2)=true:=by simp[hb]
 clear hFN hW0 hb4 hfb x0 x1 x2 x3 x4 HF
 clear hw hat h26 ha hb
 go_wp2_with (first
  |(go_at_call 81;refine(numbered_any ((HPV.out.keep fun b hb=>HFN.out.low.block b hb).more HFN.out.low.size) HO.out x).mono ?_;rintro e w6 ⟨rfl,hb6⟩;rw[en];have HFN6:=Lib.hid (HFN.out.under hb6);obtain⟨r0,r1,r2,r3,r4⟩:=HFN6.out.xc;clear hb6)
  |(go_at_call 82;refine(HS.out en _ (HGc.out.up HFN6.out.low)).mono ?_;rintro e w7 ⟨rfl,hb7⟩;rw[es];have HFN7:=Lib.hid (HFN6.out.under hb7);obtain⟨q0,q1,q2,q3,q4⟩:=HFN7.out.xc;clear hb7)
  |(go_at_call 83;refine(goes_any _ _).mono ?_;rintro e w8 ⟨rfl,hb8⟩;rw[eg];have HFN8:=Lib.hid (HFN7.out.under hb8);obtain⟨u0,u1,u2,u3,u4⟩:=HFN8.out.xc;skip;clear hb8))
 all_goals
  go_ret
  refine⟨ret_bool ?_,(by first|exact HFN8.out.low|(have hlw:=HFN8.out.low;simp only[hpb] at hlw;exact hlw))⟩
  rw[←HR.out]
  try first|rfl|(simp[*];done)|(simp_all;done)|(simp_all;omega)|(rw[Bool.eq_iff_iff];simp;done)|(rw[Bool.eq_iff_iff];simp;omega)|(rw[Bool.eq_iff_iff];simp[*];done)|(rw[Bool.eq_iff_iff];simp[*];omega)
theorem fine_n6 {p:Cp} {v:Value} {w:World} (hG:Gc w) (hv:LiesC w w.heap.size p v) {f k:Nat} {o:Cf} (ho:p.funcs[f]? =some o) {x:Ci} (hx:o.code[k]? =some x) (hlen:o.code.length≤60000) (hsay:numberedB p f x=true→SaysOk x) (hw:(formOf x.op).word.isEmpty=false) (hat:0≤x.at_∧x.at_≤60000) (en:numberedB p f x=true) (es:saysB x=true) (h26:x.op=26) (ha:x.a=2) (hb:x.b=3) (eg:goesB x.op=false):
  Calls Tryz.prog 37 #[v,.int .i64 f,.int .i64 k] w fun e w'=>e= .returned (.bool (decide (k+1<o.code.length)||(x.op==50||x.op==34)))∧Below w.heap.size w w':=by
 have Qhw:=Lib.hid hw
 have Qhat:=Lib.hid hat
 have Qh26:=Lib.hid h26
 have Qha:=Lib.hid ha
 have Qhb:=Lib.hid hb
 clear hw hat h26 ha hb
 have HGc:=Lib.hid hG
 have HO:=Lib.hid ho
 have HS:=Lib.hid hsay
 have HF:=Lib.hid (forms_call x.op)
 obtain⟨F,hF⟩:∃F,formOf x.op=F:=⟨_,rfl⟩
 rw[hF] at HF
 have HFF:=Lib.hid hF
 obtain⟨g,off,m,fc,ga,gc,n,ca,co,cap,rfl,hn,hfl,h5,hkl,hln,c5,hg,hcb,x0,x1,x2,x3,x4,HCC,HPV⟩:=fine_env hv ho hx hlen
 have HN:=Lib.hid hn
 rw[hn]
 obtain⟨R,HR⟩:∃R,Hid ((decide (k+1<n)||(x.op==50||x.op==34))=R):=⟨_,rfl⟩
 rw[HR.out]
 clear hv ho hx hn hsay hF hlen hG
 go_enter Tryz.func37,Tryz.ntmps37
 go_upto_region 4 with(go_at_call 44;refine(HF.out _).mono ?_;rintro e w4 ⟨rfl,hb4⟩)
 obtain⟨pb,fb,W0,hpb,hfb,hW0,hFN⟩:=fine_fn (F:=F) hb4
 rw[hW0]
 have HFN:=Lib.hid hFN
 obtain⟨z0,z1,z2,z3,z4⟩:=HFN.out.xc
 obtain⟨p0,p1⟩:=HFN.out.pc
 have f0:=HFN.out.fc
 simp only[hpb,hfb]
 have hwe:(⟨⟨F.word⟩⟩:ByteArray).toList.isEmpty=F.word.isEmpty:=by rw[ByteArray.toList_eq]
 have hw:=Qhw.out
 have hat:=Qhat.out
 have h26:=Qh26.out
 have ha:=Qha.out
 have hb:=Qhb.out
 have ew:F.word.isEmpty=false:=by rw[←HFF.out];exact hw
 have dA:decide (x.at_<0)=false:=decide_eq_false (by omega)
 have dB:decide (60000<x.at_)=false:=decide_eq_false (by omega)
 have e26:(x.op==26)=true:=by simp[h26]
 have db:(x.b !=0)=true:=by simp[hb]
 have db1:(x.b==1)=false:=by simp[hb]
 have da:(x.a==2)=true:=by simp[ha]
 have db2:(x.b==2)=false:=by simp[hb]
 have db3:(x.b==3)=true:=by simp[hb]
 clear hFN hW0 hb4 hfb x0 x1 x2 x3 x4 HF
 clear hw hat h26 ha hb
 go_wp2_with (first
  |(go_at_call 81;refine(numbered_any ((HPV.out.keep fun b hb=>HFN.out.low.block b hb).more HFN.out.low.size) HO.out x).mono ?_;rintro e w6 ⟨rfl,hb6⟩;rw[en];have HFN6:=Lib.hid (HFN.out.under hb6);obtain⟨r0,r1,r2,r3,r4⟩:=HFN6.out.xc;clear hb6)
  |(go_at_call 82;refine(HS.out en _ (HGc.out.up HFN6.out.low)).mono ?_;rintro e w7 ⟨rfl,hb7⟩;rw[es];have HFN7:=Lib.hid (HFN6.out.under hb7);obtain⟨q0,q1,q2,q3,q4⟩:=HFN7.out.xc;clear hb7)
  |(go_at_call 83;refine(goes_any _ _).mono ?_;rintro e w8 ⟨rfl,hb8⟩;rw[eg];have HFN8:=Lib.hid (HFN7.out.under hb8);obtain⟨u0,u1,u2,u3,u4⟩:=HFN8.out.xc;skip;clear hb8))
 all_goals
  go_ret
  refine⟨ret_bool ?_,(by first|exact HFN8.out.low|(have hlw:=HFN8.out.low;simp only[hpb] at hlw;exact hlw))⟩
  rw[←HR.out]
  try first|rfl|(simp[*];done)|(simp_all;done)|(simp_all;omega)|(rw[Bool.eq_iff_iff];simp;done)|(rw[Bool.eq_iff_iff];simp;omega)|(rw[Bool.eq_iff_iff];simp[*];done)|(rw[Bool.eq_iff_iff];simp[*];omega)
theorem fine_g1 {p:Cp} {v:Value} {w:World} (hG:Gc w) (hv:LiesC w w.heap.size p v) {f k:Nat} {o:Cf} (ho:p.funcs[f]? =some o) {x:Ci} (hx:o.code[k]? =some x) (hlen:o.code.length≤60000) (hsay:numberedB p f x=true→SaysOk x) (hw:(formOf x.op).word.isEmpty=false) (hat:0≤x.at_∧x.at_≤60000) (en:numberedB p f x=true) (es:saysB x=true) (h26:x.op≠26) (hb:x.b=0) (eg:goesB x.op=true) (hak:(k:Int)<x.a):
  Calls Tryz.prog 37 #[v,.int .i64 f,.int .i64 k] w fun e w'=>e= .returned (.bool (decide (k+1<o.code.length)||(x.op==50||x.op==34)))∧Below w.heap.size w w':=by
 have Qhw:=Lib.hid hw
 have Qhat:=Lib.hid hat
 have Qh26:=Lib.hid h26
 have Qhb:=Lib.hid hb
 have Qhak:=Lib.hid hak
 clear hw hat h26 hb hak
 have HGc:=Lib.hid hG
 have HO:=Lib.hid ho
 have HS:=Lib.hid hsay
 have HF:=Lib.hid (forms_call x.op)
 obtain⟨F,hF⟩:∃F,formOf x.op=F:=⟨_,rfl⟩
 rw[hF] at HF
 have HFF:=Lib.hid hF
 obtain⟨g,off,m,fc,ga,gc,n,ca,co,cap,rfl,hn,hfl,h5,hkl,hln,c5,hg,hcb,x0,x1,x2,x3,x4,HCC,HPV⟩:=fine_env hv ho hx hlen
 have HN:=Lib.hid hn
 rw[hn]
 obtain⟨R,HR⟩:∃R,Hid ((decide (k+1<n)||(x.op==50||x.op==34))=R):=⟨_,rfl⟩
 rw[HR.out]
 clear hv ho hx hn hsay hF hlen hG
 go_enter Tryz.func37,Tryz.ntmps37
 go_upto_region 4 with(go_at_call 44;refine(HF.out _).mono ?_;rintro e w4 ⟨rfl,hb4⟩)
 obtain⟨pb,fb,W0,hpb,hfb,hW0,hFN⟩:=fine_fn (F:=F) hb4
 rw[hW0]
 have HFN:=Lib.hid hFN
 obtain⟨z0,z1,z2,z3,z4⟩:=HFN.out.xc
 obtain⟨p0,p1⟩:=HFN.out.pc
 have f0:=HFN.out.fc
 simp only[hpb,hfb]
 have hwe:(⟨⟨F.word⟩⟩:ByteArray).toList.isEmpty=F.word.isEmpty:=by rw[ByteArray.toList_eq]
 have hw:=Qhw.out
 have hat:=Qhat.out
 have h26:=Qh26.out
 have hb:=Qhb.out
 have hak:=Qhak.out
 have ew:F.word.isEmpty=false:=by rw[←HFF.out];exact hw
 have dA:decide (x.at_<0)=false:=decide_eq_false (by omega)
 have dB:decide (60000<x.at_)=false:=decide_eq_false (by omega)
 have db:(x.b !=0)=false:=by simp[hb]
 have e26:(x.op==26)=false:=by simp[h26]
 have dk:decide (x.a≤(k:Int))=false:=decide_eq_false (by omega)
 clear hFN hW0 hb4 hfb x0 x1 x2 x3 x4 HF
 clear hw hat h26 hb hak
 go_wp2_with (first
  |(go_at_call 81;refine(numbered_any ((HPV.out.keep fun b hb=>HFN.out.low.block b hb).more HFN.out.low.size) HO.out x).mono ?_;rintro e w6 ⟨rfl,hb6⟩;rw[en];have HFN6:=Lib.hid (HFN.out.under hb6);obtain⟨r0,r1,r2,r3,r4⟩:=HFN6.out.xc;clear hb6)
  |(go_at_call 82;refine(HS.out en _ (HGc.out.up HFN6.out.low)).mono ?_;rintro e w7 ⟨rfl,hb7⟩;rw[es];have HFN7:=Lib.hid (HFN6.out.under hb7);obtain⟨q0,q1,q2,q3,q4⟩:=HFN7.out.xc;clear hb7)
  |(go_at_call 83;refine(goes_any _ _).mono ?_;rintro e w8 ⟨rfl,hb8⟩;rw[eg];have HFN8:=Lib.hid (HFN7.out.under hb8);obtain⟨u0,u1,u2,u3,u4⟩:=HFN8.out.xc;skip;clear hb8))
 all_goals
  go_ret
  refine⟨ret_bool ?_,(by first|exact HFN8.out.low|(have hlw:=HFN8.out.low;simp only[hpb] at hlw;exact hlw))⟩
  rw[←HR.out]
  try first|rfl|(simp[*];done)|(simp_all;done)|(simp_all;omega)|(rw[Bool.eq_iff_iff];simp;done)|(rw[Bool.eq_iff_iff];simp;omega)|(rw[Bool.eq_iff_iff];simp[*];done)|(rw[Bool.eq_iff_iff];simp[*];omega)
theorem goes_range {p:Cp} {f:Nat} {o:Cf} (ho:p.funcs[f]? =some o) {x:Ci} (hn:numberedB p f x=true) (hg:goesB x.op=true):0≤x.a∧x.a<o.code.length:=by
 rw[numb_eq ho] at hn
 have h10:(formOf x.op).a=10:=by
  have:((formOf x.op).a==10)=true:=hg
  simpa using this
 rw[h10] at hn
 simpa[numbE] using hn
theorem goes26:goesB 26=false:=by kernel_rfl
theorem fine_any {p:Cp} {v:Value} {w:World} (hG:Gc w) (hv:LiesC w w.heap.size p v) {f k:Nat} {o:Cf} (ho:p.funcs[f]? =some o) {x:Ci} (hx:o.code[k]? =some x) (hlen:o.code.length≤60000) (hsay:numberedB p f x=true→SaysOk x):
  Calls Tryz.prog 37 #[v,.int .i64 f,.int .i64 k] w fun e w'=>e= .returned (.bool (fineB p f o.code k x))∧Below w.heap.size w w':=by
 unfold fineB
 cases hw:(formOf x.op).word.isEmpty with
 |true=>exact fine_noword hG hv ho hx hlen hsay hw
 |false=>
 by_cases h0:x.at_<0
 ·rw[decide_eq_false (show¬0≤x.at_ by omega)]
  exact fine_before hG hv ho hx hlen hsay hw h0
 by_cases h1:60000<x.at_
 ·rw[decide_eq_true (show 0≤x.at_ by omega),decide_eq_false (show¬x.at_≤60000 by omega)]
  exact fine_behind hG hv ho hx hlen hsay hw h1
 have hat:0≤x.at_∧x.at_≤60000:=by omega
 rw[decide_eq_true hat.1,decide_eq_true hat.2]
 cases en:numberedB p f x with
 |false=>exact fine_number hG hv ho hx hlen hsay hw hat en
 |true=>
 cases es:saysB x with
 |false=>exact fine_text hG hv ho hx hlen hsay hw hat en es
 |true=>
 simp only[Bool.not_false,Bool.true_and]
 by_cases h26:x.op=26
 ·have eg:goesB x.op=false:=by rw[h26];exact goes26
  have e26:(x.op==26)=true:=by simp[h26]
  rw[eg,e26]
  simp only[Bool.not_false,Bool.true_or,Bool.true_and]
  by_cases hb0:x.b=0
  ·rw[show(x.b==0)=true by simp[hb0]]
   by_cases ha:x.a=2
   ·exact fine_n3 hG hv ho hx hlen hsay hw hat en es h26 hb0 ha eg
   ·exact fine_n2 hG hv ho hx hlen hsay hw hat en es h26 hb0 ha eg
  ·by_cases hb1:x.b=1
   ·rw[show(x.b==1)=true by simp[hb1],Bool.true_or,Bool.or_true]
    exact fine_n4 hG hv ho hx hlen hsay hw hat en es h26 hb1 eg
   ·rw[show(x.b==0)=false by simp[hb0],show(x.b==1)=false by simp[hb1]]
    by_cases ha:x.a=2
    ·rw[show(x.a==2)=true by simp[ha]]
     by_cases hb2:x.b=2
     ·rw[show(x.b==2)=true by simp[hb2]]
      exact fine_n5 hG hv ho hx hlen hsay hw hat en es h26 ha hb2 eg
     ·by_cases hb3:x.b=3
      ·rw[show(x.b==3)=true by simp[hb3],Bool.or_true]
       exact fine_n6 hG hv ho hx hlen hsay hw hat en es h26 ha hb3 eg
      ·rw[show(x.b==2)=false by simp[hb2],show(x.b==3)=false by simp[hb3]]
       exact fine_b3 hG hv ho hx hlen hsay hw hat en es h26 ha ⟨hb0,hb1,hb2,hb3⟩
    ·rw[show(x.a==2)=false by simp[ha]]
     exact fine_b2 hG hv ho hx hlen hsay hw hat en es hb0 h26 hb1 ha
 ·rw[show(x.op==26)=false by simp[h26]]
  by_cases hb:x.b=0
  ·rw[show(x.b==0)=true by simp[hb]]
   cases eg:goesB x.op with
   |false=>exact fine_n1 hG hv ho hx hlen hsay hw hat en es h26 hb eg
   |true=>
    obtain⟨ha0,ha1⟩:=goes_range ho en eg
    by_cases hak:(k:Int)<x.a
    ·rw[decide_eq_true hak]
     exact fine_g1 hG hv ho hx hlen hsay hw hat en es h26 hb eg hak
    ·obtain⟨j,hj⟩:∃j:Nat,x.a=(j:Int):=⟨x.a.toNat,by omega⟩
     obtain⟨y,hy⟩:∃y,o.code[j]? =some y:=⟨_,List.getElem?_eq_getElem (by omega)⟩
     rw[decide_eq_false hak,show x.a.toNat=j by omega,hy]
     by_cases hy1:y.op=1
     ·simp only[hy1]
      exact fine_g2 hG hv ho hx hlen hsay hw hat en es h26 hb eg hj hy (by omega) hy1
     ·by_cases hy2:y.op=2
      ·simp only[hy2]
       exact fine_g3 hG hv ho hx hlen hsay hw hat en es h26 hb eg hj hy (by omega) hy2
      ·have z1:(y.op==1)=false:=by simp[hy1]
       have z2:(y.op==2)=false:=by simp[hy2]
       simp only[z1,z2]
       exact fine_g4 hG hv ho hx hlen hsay hw hat en es h26 hb eg hj hy (by omega) ⟨hy1,hy2⟩
  ·rw[show(x.b==0)=false by simp[hb]]
   exact fine_b1 hG hv ho hx hlen hsay hw hat en es hb h26
theorem PgAt.rise {w W:World} {p:Cp} {n m:Nat} {fa ga:Option Addr} {xs:List (Cf×Fv)} (h:PgAt w p n m fa ga xs) (hb:Below w.heap.size w W):PgAt W p n m fa ga xs:=
 ⟨h.fn,h.gn,h.fs,(h.fr.keep hb.block).more hb.size,(h.gr.keep hb.block).more hb.size,fun x hx=>(h.ls x hx).up hb⟩
theorem PgAt.lies {w:World} {p:Cp} {n m fc gc:Nat} {fa ga:Option Addr} {xs:List (Cf×Fv)} (h:PgAt w p n m fa ga xs) (h1:n≤fc) (h2:m≤gc):LiesC w w.heap.size p (.agg #[.slice fa n fc,.slice ga m gc]):=
 ⟨fa,fc,ga,gc,xs,h.fs,by rw[h.fn,h.gn],h.fr,h.gr,by rw[h.fn];exact h1,by rw[h.gn];exact h2,h.ls⟩
structure Tame (p:Cp):Prop where
 ok:CpOk p
 names:∀f∈p.funcs,f.name.size≤4000000000
 texts:∀f∈p.funcs,∀x∈f.code,x.text.size≤4000000000
 sum:manySum p.funcs≤4000000000000
theorem sum_mem:∀(l:List Cf) (f:Cf),f∈l→(f.code.length:Int)≤manySum l
 |g::r,f,h=>by
  rw[manySum]
  have:=manySum_pos r
  rcases List.mem_cons.1 h with rfl|h
  ·omega
  ·have:=sum_mem r f h;omega
theorem headsFrom_cons (fs:List Cf) (i:Nat) (f:Cf) (r:List Cf) (old:List (List UInt8)):headsFrom fs i (f::r) old=if headedB fs i f old then headsFrom fs (i+1) r (nextOld i f old) else some i:=rfl
theorem fitsFrom_cons (i:Nat) (f:Cf) (r:List Cf):fitsFrom i (f::r)=match fitsP f.code with
  |some k=>some ⟨130,i,some k⟩
  |none=>fitsFrom (i+1) r:=rfl
theorem codesFrom_cons (p:Cp) (i:Nat) (f:Cf) (r:List Cf):codesFrom p i (f::r)=if f.code=[] then some ⟨130,i,none⟩ else match fineFrom p i f.code 0 f.code with
  |some k=>some ⟨130,i,some k⟩
  |none=>codesFrom p (i+1) r:=rfl
theorem fineFrom_cons (p:Cp) (f:Nat) (code:List Ci) (k:Nat) (x:Ci) (r:List Ci):fineFrom p f code k (x::r)=if fineB p f code k x then fineFrom p f code (k+1) r else some k:=rfl
theorem nextOld_len (i:Nat) (f:Cf) (old:List (List UInt8)):(nextOld i f old).length≤old.length+1:=by
 unfold nextOld
 split
 ·simp
 ·omega
theorem round_bd {code:List Ci} {c:Cst} {k:Nat} (hk:k<code.length) (hfit:∀(k:Nat) (x:Ci),code[k]? =some x→FitI code k x) {e:Int} (h:(roundP code c k).1=some e):0≤e∧e≤code.length:=by
 unfold roundP at h
 split at h
 ·rename_i x s hx hs
  split at h
  ·injection h with h;omega
  ·rename_i nx th _
   dsimp only at h
   generalize (if x.op=34∨x.op=50 then(c,true) else handP c (k+1) nx)=h1 at h
   by_cases e1:h1.2=false
   ·rw[if_pos e1] at h
    injection h with h;omega
   ·rw[if_neg e1] at h
    by_cases hg:goesB x.op=true
    ·obtain⟨g1,g2⟩:=(hfit k x hx).goes hg
     rw[if_pos hg] at h
     generalize handP h1.1 x.a.toNat th=h2 at h
     by_cases e2:h2.2=false
     ·rw[if_pos e2] at h
      injection h with h
      omega
     ·rw[if_neg e2] at h
      cases h
    ·rw[if_neg hg,if_neg (by simp)] at h
     cases h
 ·cases h
theorem loop_bd {code:List Ci} (hfit:∀(k:Nat) (x:Ci),code[k]? =some x→FitI code k x) {e:Int}:∀(fu:Nat) (c:Cst),Inv code c→fitsLoop code fu c=some e→0≤e∧e≤code.length
 |0,_,_,h=>by cases h
 |fu+1,c,hI,h=>by
  rw[fitsLoop] at h
  split at h
  ·cases h
  ·rename_i hne
   obtain⟨k,hk,hkl,s,hs⟩:=pop_at hI hne
   split at h
   ·exact loop_bd hfit fu _ (hI.pop hne).1 h
   ·rename_i hsn
    rw[hk] at h hsn
    simp only[Int.toNat_natCast] at h hsn
    have hI2:=((hI.pop hne).1.look (k:=k) hkl (by simpa using hsn)).1
    split at h
    ·rename_i e' c' hr
     injection h with h
     subst h
     exact round_bd hkl hfit (by rw[hr])
    ·rename_i c' hr
     have:=hI2.round hfit k
     simp only at this
     rw[hr] at this
     exact loop_bd hfit fu _ (this rfl).1 h
theorem fits_bd {code:List Ci} (h0:0<code.length) (hfit:∀(k:Nat) (x:Ci),code[k]? =some x→FitI code k x) {e:Int} (h:fitsP code=some e):0≤e∧e≤code.length:=
 loop_bd hfit _ _ (Inv.begin code h0).1 h
theorem numb22 {p:Cp} {f:Nat} {o:Cf} (ho:p.funcs[f]? =some o) {x:Ci} (hn:numberedB p f x=true) (h:(formOf x.op).text=22):0≤x.a∧x.a≤1000000:=by
 have hop:x.op=29:=by
  rcases Decidable.em (1≤x.op∧x.op≤53) with hr|hr
  ·obtain⟨k,hk⟩:=Int.eq_ofNat_of_zero_le (show 0≤x.op by omega)
   have key:∀k:Fin 54,(formOf (k.val:Int)).text=22→k.val=29:=by decide+kernel
   have:=key ⟨k,by omega⟩ (by rw[hk] at h;exact h)
   simp only at this
   omega
  ·rw[formOf,if_neg hr] at h
   cases h
 rw[numb_eq ho,hop,show(formOf 29).a=8 from rfl] at hn
 have:0≤x.a∧x.a<31:=by simpa[numbE] using hn
 omega
theorem Tame.says {p:Cp} (h:Tame p) {f:Nat} {o:Cf} (ho:p.funcs[f]? =some o) {k:Nat} {x:Ci} (hx:o.code[k]? =some x) (hn:numberedB p f x=true):SaysOk x:=
 says_any x ⟨h.texts o (List.mem_of_getElem? ho) x (List.mem_of_getElem? hx),fun h22=>numb22 ho hn h22⟩
theorem fit_counted {code:List Ci} {k:Nat} {x:Ci} (h:FitI code k x):CountedOk x:=by
 by_cases h26:x.op=26
 ·obtain⟨h1,h2⟩:=h.slice h26
  exact counted_slice x h26 (by omega) h2
 ·exact counted_any x h.count h26
theorem codes_fit {p:Cp} (h:codesFrom p 0 p.funcs=none) {i:Nat} {f:Cf} (hf:p.funcs[i]? =some f):0<f.code.length∧(∀(k:Nat) (x:Ci),f.code[k]? =some x→FitI f.code k x)∧∀x∈f.code,CountedOk x:=by
 obtain⟨h1,h2⟩:=codes_at p.funcs 0 h i f hf
 have hfit:∀(k:Nat) (x:Ci),f.code[k]? =some x→FitI f.code k x:=fun k x hx=>by
  have:=fine_at f.code 0 h2 k x hx
  rw[Nat.zero_add,Nat.zero_add] at this
  exact fine_fit hf this
 refine⟨List.length_pos_iff.2 h1,hfit,fun x hx=> ?_⟩
 obtain⟨k,hk⟩:=List.mem_iff_getElem?.1 hx
 exact fit_counted (hfit k x hk)
end Go.Proofs.YtagnicbknbmccaaGreatDoor
