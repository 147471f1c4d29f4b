/- code.numbered. code.counted of a slice's instruction. -/
import Derived.Test.YtagnicbknbmccaaGreatDoorSqC
import Derived.Test.YtagnicbknbmccaaGreatDoorMCyA
import Derived.Test.YtagnicbknbmccaaGreatDoorMCwB
import Derived.Test.YtagnicbknbmccaaGreatDoorMCdD
import Derived.Test.YtagnicbknbmccaaGreatDoorMCwF
set_option maxRecDepth 100000
set_option maxHeartbeats 4000000
namespace Go.Proofs.YtagnicbknbmccaaGreatDoor
open Go.RowKit
def numbE (p:Cp) (f:Nat) (o:Cf) (x:Ci):Nat→Bool
 |0=>x.a==0
 |1=>decide (0≤x.a)&&decide (x.a<2)
 |2=>decide (0≤x.a)&&decide (x.a<3)
 |3=>decide (0≤x.a)&&decide (x.a<o.slots)
 |4=>decide (0≤x.a)&&decide (x.a<p.globals.length)
 |5=>decide (0≤x.a)&&decide (x.a<o.taken.length)
 |6=>decide (1≤x.a)&&decide (x.a≤7)
 |7=>decide (0≤x.a)&&decide (x.a<20001)
 |8=>decide (0≤x.a)&&decide (x.a<31)
 |9=>decide (0<x.a)&&(match p.funcs[x.a.toNat]? with
  |none=>false
  |some g=>g.around== -1||g.around==f)
 |10=>decide (0≤x.a)&&decide (x.a<o.code.length)
 |11=>x.a==2||x.a==3
 |_=>decide (0≤x.a)&&decide (x.a<0)
theorem numb_eq {p:Cp} {f:Nat} {o:Cf} (ho:p.funcs[f]? =some o) (x:Ci):numberedB p f x=numbE p f o x (formOf x.op).a:=by
 unfold numberedB
 rw[ho]
 generalize (formOf x.op).a=a
 unfold numbE
 rfl
theorem below3 (w:World) (o0 o1 o2:Obj):(((w.alloc o0).alloc o1).alloc o2).heap[w.heap.size]? =some o0∧(((w.alloc o0).alloc o1).alloc o2).heap[w.heap.size+1]? =some o1∧(((w.alloc o0).alloc o1).alloc o2).heap[w.heap.size+1+1]? =some o2∧Below w.heap.size w (((w.alloc o0).alloc o1).alloc o2)∧(((w.alloc o0).alloc o1).alloc o2).heap.size=w.heap.size+3:=by
 have e:(((w.alloc o0).alloc o1).alloc o2).heap=((w.heap.push o0).push o1).push o2:=rfl
 refine⟨?_, ?_, ?_, ?_, ?_⟩
 ·rw[e];simp[Array.getElem_push,Nat.add_assoc]
 ·rw[e];simp[Array.getElem_push,Nat.add_assoc]
 ·rw[e];simp[Array.getElem_push,Nat.add_assoc]
 ·exact(((Below.refl _ _).alloc (Nat.le_refl _) _).alloc (by simp) _).alloc (by simp;omega) _
 ·rw[e];simp
theorem numb_facts {w w4:World} {o0 o1 o2:Array Value} {t0 t1 t2:TypeId} (hA:(((w.alloc (.cells o0 t0 (0,0))).alloc (.cells o1 t1 (0,0))).alloc (.cells o2 t2 (0,0))).heap[w.heap.size]? =some (.cells o0 t0 (0,0))∧(((w.alloc (.cells o0 t0 (0,0))).alloc (.cells o1 t1 (0,0))).alloc (.cells o2 t2 (0,0))).heap[w.heap.size+1]? =some (.cells o1 t1 (0,0))∧(((w.alloc (.cells o0 t0 (0,0))).alloc (.cells o1 t1 (0,0))).alloc (.cells o2 t2 (0,0))).heap[w.heap.size+1+1]? =some (.cells o2 t2 (0,0))∧Below w.heap.size w (((w.alloc (.cells o0 t0 (0,0))).alloc (.cells o1 t1 (0,0))).alloc (.cells o2 t2 (0,0)))∧(((w.alloc (.cells o0 t0 (0,0))).alloc (.cells o1 t1 (0,0))).alloc (.cells o2 t2 (0,0))).heap.size=w.heap.size+3)
  (hb:Below (((w.alloc (.cells o0 t0 (0,0))).alloc (.cells o1 t1 (0,0))).alloc (.cells o2 t2 (0,0))).heap.size (((w.alloc (.cells o0 t0 (0,0))).alloc (.cells o1 t1 (0,0))).alloc (.cells o2 t2 (0,0))) w4):
  w4.cell? ⟨w.heap.size,0,none⟩=o0[0]? ∧w4.cell? ⟨w.heap.size,1,none⟩=o0[1]? ∧w4.cell? ⟨w.heap.size+1,1,none⟩=o1[1]? ∧w4.cell? ⟨w.heap.size+1+1,2,none⟩=o2[2]? ∧w4.cell? ⟨w.heap.size+1+1,3,none⟩=o2[3]? ∧w4.cell? ⟨w.heap.size+1+1,5,none⟩=o2[5]? ∧Below w.heap.size w w4:=by
 obtain⟨h1,h2,h3,h4,h5⟩:=hA
 rw[h5] at hb
 have k1:=(hb.block w.heap.size (by omega)).trans h1
 have k2:=(hb.block (w.heap.size+1) (by omega)).trans h2
 have k3:=(hb.block (w.heap.size+1+1) (by omega)).trans h3
 exact⟨cell_of_row w4 _ 0 _ _ _ k1,cell_of_row w4 _ 1 _ _ _ k1,cell_of_row w4 _ 1 _ _ _ k2,cell_of_row w4 _ 2 _ _ _ k3,cell_of_row w4 _ 3 _ _ _ k3,cell_of_row w4 _ 5 _ _ _ k3,h4.trans (hb.mono (by omega))⟩
attribute [local go_sem] fieldFm1
theorem numbered_any {p:Cp} {v:Value} {w:World} (hv:LiesC w w.heap.size p v) {f:Nat} {o:Cf} (ho:p.funcs[f]? =some o) (x:Ci):
  Calls Tryz.prog 81 #[v,.int .i64 f,insV x] w fun e w'=>e= .returned (.bool (numberedB p f x))∧Below w.heap.size w w':=by
 obtain⟨fa,fc,ga,gc,xs,h1,rfl,h3,h4,h5,h6,h7⟩:=hv
 have hfl:f<p.funcs.length:=(List.getElem?_eq_some_iff.1 ho).1
 obtain⟨y,hy⟩:∃y,xs[f]? =some y:=⟨_,List.getElem?_eq_getElem (by have:=congrArg List.length h1;simp at this;omega)⟩
 have hyo:y.1=o:=by
  have:(xs.map Prod.fst)[f]? =some y.1:=by simp[hy]
  rw[h1,ho] at this
  exact(Option.some.inj this).symm
 obtain⟨o',fv⟩:=y
 obtain rfl:o'=o:=hyo
 obtain⟨g,off,rfl,hg,hc⟩:=h3.at (by rw[flat_len fn_len];have:=congrArg List.length h1;simp at this;omega)
 obtain⟨c0,c1,c2,c3,c4,c5⟩:=fn_at hc hy
 have HC:=Lib.hid hc
 have H1:=Lib.hid h1
 have HF:=Lib.hid (forms_call x.op)
 have hle:=(forms_bytes x.op).2.2.2.2
 obtain⟨a,ha⟩:∃a,(formOf x.op).a=a:=⟨_,rfl⟩
 have HN:=Lib.hid (numb_eq ho x)
 obtain⟨F,hF⟩:∃F,formOf x.op=F:=⟨_,rfl⟩
 rw[hF] at HF ha hle HN
 rw[ha] at HF hle HN
 obtain⟨R,HR⟩:∃R,Hid (numberedB p f x=R):=⟨_,rfl⟩
 rw[HR.out] at HN⊢
 obtain⟨n,hn⟩:∃n,p.funcs.length=n:=⟨_,rfl⟩
 obtain⟨m,hm⟩:∃m,p.globals.length=m:=⟨_,rfl⟩
 have HLN:=Lib.hid hn
 have HM:=Lib.hid hm
 rw[hn] at hfl h5⊢
 rw[hm]
 simp only[insV]
 clear h1 h3 h4 h6 h7 hc hy ho hn hm hF ha
 go_enter Tryz.func81,Tryz.ntmps81
 have hcase:a=9∨(a=0∨a=1∨a=2∨a=3∨a=4∨a=5∨a=6∨a=7∨a=8∨a=10∨a=11):=by omega
 rcases hcase with rfl|hcase
 ·have hn:=HN.out
  simp only[numbE] at hn
  by_cases h0:0<x.a
  ·have e0:decide (0<x.a)=true:=decide_eq_true h0
   rw[e0,Bool.true_and] at hn
   obtain⟨xa,hxa⟩:=Int.eq_ofNat_of_zero_le (Int.le_of_lt h0)
   by_cases h1:x.a<n
   ·have e1:decide (x.a<(n:Int))=true:=decide_eq_true h1
    have hxl:xa<n:=by omega
    obtain⟨y2,hy2⟩:∃y2,xs[xa]? =some y2:=⟨_,List.getElem?_eq_getElem (by have:=congrArg List.length H1.out;simp at this;have:=HLN.out;omega)⟩
    obtain⟨o2,fv2⟩:=y2
    have ho2:p.funcs[xa]? =some o2:=by rw[←H1.out];simp[hy2]
    rw[hxa] at hn
    simp only[Int.toNat_natCast,ho2] at hn
    have hc4:=(fn_at HC.out hy2).2.2.2.2.1
    have HC4:=Lib.hid hc4
    have HN2:=Lib.hid hn
    have e2:decide (0<(xa:Int))=true:=by rw[←hxa];exact e0
    have e3:decide ((xa:Int)<(n:Int))=true:=by rw[←hxa];exact e1
    clear hn HN hy2 ho2 hc4 e0 e1 h0 h1
    rw[hxa]
    by_cases hm1:o2.around= -1
    ·have e4:(o2.around== -1)=true:=by simp[hm1]
     have e5:(o2.around==(f:Int))=false:=by first|(simp[hm1];done)|(simp[hm1];omega)
     clear hm1
     go_wp2_with (go_at_call 44;refine(HF.out _).mono ?_;rintro e w4 ⟨rfl,hb4⟩;have hA:=below3 w (.cells #[.slice (some ⟨g,off,none⟩) n fc,.slice ga m gc] 27 (0,0)) (.cells #[.int .i64 x.op,.int .i64 (xa:Int),.int .i64 x.b,.string x.text,.int .i64 x.at_] 36 (0,0)) (.cells #[.string o'.name,.int .i64 o'.params,.int .i64 o'.slots,.slice fv.ta o'.taken.length fv.tc,.int .i64 o'.around,.slice fv.ca o'.code.length fv.cc] 33 (0,0));have hB:=numb_facts hA hb4;simp only[gq] at hB;obtain⟨z0,z1,z2,z3,z4,z5,z6⟩:=hB;have HBW:=Lib.hid z6;have zc:=(World.cell?_of_block (w:=w) (a:=⟨g,off+xa*6+4,none⟩) (z6.block g hg)).trans HC4.out;clear z6 hA hb4)
     all_goals
      go_ret
      refine⟨ret_bool ?_,HBW.out⟩
      rw[HN2.out]
      try first|rfl|(simp[*];done)|(simp_all;done)|(simp_all;omega)|(rw[Bool.eq_iff_iff];simp;done)|(rw[Bool.eq_iff_iff];simp;omega)|(rw[Bool.eq_iff_iff];simp[*];done)|(rw[Bool.eq_iff_iff];simp[*];omega)
    ·have e4:(o2.around== -1)=false:=by simp[hm1]
     clear hm1
     go_wp2_with (go_at_call 44;refine(HF.out _).mono ?_;rintro e w4 ⟨rfl,hb4⟩;have hA:=below3 w (.cells #[.slice (some ⟨g,off,none⟩) n fc,.slice ga m gc] 27 (0,0)) (.cells #[.int .i64 x.op,.int .i64 (xa:Int),.int .i64 x.b,.string x.text,.int .i64 x.at_] 36 (0,0)) (.cells #[.string o'.name,.int .i64 o'.params,.int .i64 o'.slots,.slice fv.ta o'.taken.length fv.tc,.int .i64 o'.around,.slice fv.ca o'.code.length fv.cc] 33 (0,0));have hB:=numb_facts hA hb4;simp only[gq] at hB;obtain⟨z0,z1,z2,z3,z4,z5,z6⟩:=hB;have HBW:=Lib.hid z6;have zc:=(World.cell?_of_block (w:=w) (a:=⟨g,off+xa*6+4,none⟩) (z6.block g hg)).trans HC4.out;clear z6 hA hb4)
     all_goals
      go_ret
      refine⟨ret_bool ?_,HBW.out⟩
      rw[HN2.out]
      try first|rfl|(simp[*];done)|(simp_all;done)|(simp_all;omega)|(rw[Bool.eq_iff_iff];simp;done)|(rw[Bool.eq_iff_iff];simp;omega)|(rw[Bool.eq_iff_iff];simp[*];done)|(rw[Bool.eq_iff_iff];simp[*];omega)
   ·have e1:decide (x.a<(n:Int))=false:=decide_eq_false h1
    rw[List.getElem?_eq_none (by have:=HLN.out;omega)] at hn
    have HN2:=Lib.hid hn
    have e2:decide (0<(xa:Int))=true:=by rw[←hxa];exact e0
    have e3:decide ((xa:Int)<(n:Int))=false:=by rw[←hxa];exact e1
    have hge:n≤xa:=by omega
    clear hn HN e0 e1 h0 h1
    rw[hxa]
    go_wp2_with (go_at_call 44;refine(HF.out _).mono ?_;rintro e w4 ⟨rfl,hb4⟩;have hA:=below3 w (.cells #[.slice (some ⟨g,off,none⟩) n fc,.slice ga m gc] 27 (0,0)) (.cells #[.int .i64 x.op,.int .i64 (xa:Int),.int .i64 x.b,.string x.text,.int .i64 x.at_] 36 (0,0)) (.cells #[.string o'.name,.int .i64 o'.params,.int .i64 o'.slots,.slice fv.ta o'.taken.length fv.tc,.int .i64 o'.around,.slice fv.ca o'.code.length fv.cc] 33 (0,0));have hB:=numb_facts hA hb4;simp only[gq] at hB;obtain⟨z0,z1,z2,z3,z4,z5,z6⟩:=hB;have HBW:=Lib.hid z6;clear z6 hA hb4)
    all_goals
     go_ret
     exact⟨ret_bool HN2.out.symm,HBW.out⟩
  ·have e0:decide (0<x.a)=false:=decide_eq_false h0
   rw[e0,Bool.false_and] at hn
   have HN2:=Lib.hid hn
   clear hn HN
   go_wp2_with (go_at_call 44;refine(HF.out _).mono ?_;rintro e w4 ⟨rfl,hb4⟩;have hA:=below3 w (.cells #[.slice (some ⟨g,off,none⟩) n fc,.slice ga m gc] 27 (0,0)) (.cells #[.int .i64 x.op,.int .i64 x.a,.int .i64 x.b,.string x.text,.int .i64 x.at_] 36 (0,0)) (.cells #[.string o'.name,.int .i64 o'.params,.int .i64 o'.slots,.slice fv.ta o'.taken.length fv.tc,.int .i64 o'.around,.slice fv.ca o'.code.length fv.cc] 33 (0,0));have hB:=numb_facts hA hb4;simp only[gq] at hB;obtain⟨z0,z1,z2,z3,z4,z5,z6⟩:=hB;have HBW:=Lib.hid z6;clear z6 hA hb4)
   all_goals
    go_ret
    exact⟨ret_bool HN2.out.symm,HBW.out⟩
 ·rcases hcase with rfl|rfl|rfl|rfl|rfl|rfl|rfl|rfl|rfl|rfl|rfl
  all_goals
   have hn:=HN.out
   simp only[numbE] at hn
   have HN2:=Lib.hid hn
   clear hn HN
   go_wp2_with (go_at_call 44;refine(HF.out _).mono ?_;rintro e w4 ⟨rfl,hb4⟩;have hA:=below3 w (.cells #[.slice (some ⟨g,off,none⟩) n fc,.slice ga m gc] 27 (0,0)) (.cells #[.int .i64 x.op,.int .i64 x.a,.int .i64 x.b,.string x.text,.int .i64 x.at_] 36 (0,0)) (.cells #[.string o'.name,.int .i64 o'.params,.int .i64 o'.slots,.slice fv.ta o'.taken.length fv.tc,.int .i64 o'.around,.slice fv.ca o'.code.length fv.cc] 33 (0,0));have hB:=numb_facts hA hb4;simp only[gq] at hB;obtain⟨z0,z1,z2,z3,z4,z5,z6⟩:=hB;have HBW:=Lib.hid z6;clear z6 hA hb4)
   all_goals
    go_ret
    refine⟨ret_bool ?_,HBW.out⟩
    rw[HN2.out]
    try rw[HM.out]
    try first|rfl|(simp[*];done)|(simp_all;done)|(simp_all;omega)|(rw[Bool.eq_iff_iff];simp;done)|(rw[Bool.eq_iff_iff];simp;omega)|(rw[Bool.eq_iff_iff];simp[*];done)|(rw[Bool.eq_iff_iff];simp[*];omega)
theorem counted_sl0 (a at_:Int) (text:ByteArray) (ha:0≤a∧a≤30000) (w:World):Calls Tryz.prog 126 #[.agg #[.int .i64 26,.int .i64 a,.int .i64 0,.string text,.int .i64 at_]] w fun e w'=>e= .returned (.tuple #[.int .u8 118,.int .i64 (a+1)])∧Below w.heap.size w w':=by
 have w1:IntKind.i64.wrap (a+1)=a+1:=by rw[IntKind.wrap_i64];omega
 have w2:IntKind.i64.wrap (a-1)=a-1:=by rw[IntKind.wrap_i64];omega
 go_enter Tryz.func126,Tryz.ntmps126
 go_upto_region 12 with fail
 have hx:=heap_alloc_new w (.cells #[.int .i64 26,.int .i64 a,.int .i64 0,.string text,.int .i64 at_] 36 (0,0))
 have hB0:Below w.heap.size w (World.drew (w.alloc (.cells #[.int .i64 26,.int .i64 a,.int .i64 0,.string text,.int .i64 at_] 36 (0,0)))):=Below.drewN' ((Below.refl _ _).alloc (Nat.le_refl _) _) 1
 have hsz:(World.drew (w.alloc (.cells #[.int .i64 26,.int .i64 a,.int .i64 0,.string text,.int .i64 at_] 36 (0,0)))).heap.size=w.heap.size+1:=World.size_alloc _ _
 obtain⟨W1,hW1⟩:∃W1,w.alloc (.cells #[.int .i64 26,.int .i64 a,.int .i64 0,.string text,.int .i64 at_] 36 (0,0))=W1:=⟨_,rfl⟩
 obtain⟨xb,hxb0⟩:∃xb,w.heap.size=xb:=⟨_,rfl⟩
 simp only[hW1,hxb0] at hx hB0 hsz⊢
 have y1:(World.drew W1).cell? ⟨xb,1,none⟩=some (.int .i64 a):=cell_of_row W1 xb 1 _ _ _ hx
 have y2:(World.drew W1).cell? ⟨xb,2,none⟩=some (.int .i64 0):=cell_of_row W1 xb 2 _ _ _ hx
 have hxb:xb<(World.drew W1).heap.size:=by omega
 have HB:=Lib.hid hB0
 have HXB:=Lib.hid hxb0
 clear hx hB0 hsz hW1 hxb0
 refine wp_region_G [] (fun u=>u.cell? ⟨xb,1,none⟩=some (.int .i64 a)∧u.cell? ⟨xb,2,none⟩=some (.int .i64 0)) (by rfl) ?_ (fun hHeld=> ?_)
 ·exact⟨y1,y2⟩
 generalize hwd:World.drew W1=wd at HB y1 y2 hxb hHeld⊢
 refine tk 0 (h:=tk 1 (h:=tk 2 (h:=tk 3 (h:=tk 4 (h:=tk 5 (h:= ?_))))))
 try simp only[nmC]
 refine tk 6 (h:=tk 7 (h:=tk 8 (h:=tk 9 (h:=tk 11 (h:=tk 12 (h:= ?_))))))
 try simp only[nmC]
 refine tk 15 (h:= ?_)
 try simp only[nmC]
 refine rd1 10 fun KK hKK=> ?_
 go_simp
 have y1:=(((Below.refl wd.heap.size wd).alloc (Nat.le_refl _) (.cells #[.int .i64 (a+1),.int .i64 a,.int .i64 a,.int .i64 (a-1)] 3 (0,0))).cell (p:=⟨xb,1,none⟩) hxb).trans y1
 have y2:=(((Below.refl wd.heap.size wd).alloc (Nat.le_refl _) (.cells #[.int .i64 (a+1),.int .i64 a,.int .i64 a,.int .i64 (a-1)] 3 (0,0))).cell (p:=⟨xb,2,none⟩) hxb).trans y2
 have z:=(cell_of_row _ _ 0 _ _ _ (heap_alloc_new wd (.cells #[.int .i64 (a+1),.int .i64 a,.int .i64 a,.int .i64 (a-1)] 3 (0,0))))
 simp only[gq] at z
 try dsimp only
 refine hKK.out _ _ (⟨y1,y2⟩) (fun hHeld=> ?_)
 clear hKK KK
 try simp only[nmC]
 refine tk 13 (h:= ?_)
 try simp only[nmC]
 refine rd1 14 fun KK hKK=> ?_
 go_simp
 try dsimp only
 refine hKK.out _ _ (⟨y1,y2⟩) (fun hHeld=> ?_)
 clear hKK KK
 try simp only[nmC]
 refine tk 16 (h:= ?_)
 try simp only[nmC]
 refine wpAnyG_done (by kernel_rfl) ?_ _
 go_wp2_with fail
 go_ret2
 exact⟨rfl,by rw[HXB.out];exact HB.out.alloc (by omega) _⟩
theorem counted_sl1 (a at_:Int) (text:ByteArray) (ha:0≤a∧a≤30000) (w:World):Calls Tryz.prog 126 #[.agg #[.int .i64 26,.int .i64 a,.int .i64 1,.string text,.int .i64 at_]] w fun e w'=>e= .returned (.tuple #[.int .u8 118,.int .i64 (a)])∧Below w.heap.size w w':=by
 have w1:IntKind.i64.wrap (a+1)=a+1:=by rw[IntKind.wrap_i64];omega
 have w2:IntKind.i64.wrap (a-1)=a-1:=by rw[IntKind.wrap_i64];omega
 go_enter Tryz.func126,Tryz.ntmps126
 go_upto_region 12 with fail
 have hx:=heap_alloc_new w (.cells #[.int .i64 26,.int .i64 a,.int .i64 1,.string text,.int .i64 at_] 36 (0,0))
 have hB0:Below w.heap.size w (World.drew (w.alloc (.cells #[.int .i64 26,.int .i64 a,.int .i64 1,.string text,.int .i64 at_] 36 (0,0)))):=Below.drewN' ((Below.refl _ _).alloc (Nat.le_refl _) _) 1
 have hsz:(World.drew (w.alloc (.cells #[.int .i64 26,.int .i64 a,.int .i64 1,.string text,.int .i64 at_] 36 (0,0)))).heap.size=w.heap.size+1:=World.size_alloc _ _
 obtain⟨W1,hW1⟩:∃W1,w.alloc (.cells #[.int .i64 26,.int .i64 a,.int .i64 1,.string text,.int .i64 at_] 36 (0,0))=W1:=⟨_,rfl⟩
 obtain⟨xb,hxb0⟩:∃xb,w.heap.size=xb:=⟨_,rfl⟩
 simp only[hW1,hxb0] at hx hB0 hsz⊢
 have y1:(World.drew W1).cell? ⟨xb,1,none⟩=some (.int .i64 a):=cell_of_row W1 xb 1 _ _ _ hx
 have y2:(World.drew W1).cell? ⟨xb,2,none⟩=some (.int .i64 1):=cell_of_row W1 xb 2 _ _ _ hx
 have hxb:xb<(World.drew W1).heap.size:=by omega
 have HB:=Lib.hid hB0
 have HXB:=Lib.hid hxb0
 clear hx hB0 hsz hW1 hxb0
 refine wp_region_G [] (fun u=>u.cell? ⟨xb,1,none⟩=some (.int .i64 a)∧u.cell? ⟨xb,2,none⟩=some (.int .i64 1)) (by rfl) ?_ (fun hHeld=> ?_)
 ·exact⟨y1,y2⟩
 generalize hwd:World.drew W1=wd at HB y1 y2 hxb hHeld⊢
 refine tk 0 (h:=tk 1 (h:=tk 2 (h:=tk 3 (h:=tk 4 (h:=tk 5 (h:= ?_))))))
 try simp only[nmC]
 refine tk 6 (h:=tk 7 (h:=tk 8 (h:=tk 9 (h:=tk 11 (h:=tk 12 (h:= ?_))))))
 try simp only[nmC]
 refine tk 15 (h:= ?_)
 try simp only[nmC]
 refine rd1 10 fun KK hKK=> ?_
 go_simp
 have y1:=(((Below.refl wd.heap.size wd).alloc (Nat.le_refl _) (.cells #[.int .i64 (a+1),.int .i64 a,.int .i64 a,.int .i64 (a-1)] 3 (0,0))).cell (p:=⟨xb,1,none⟩) hxb).trans y1
 have y2:=(((Below.refl wd.heap.size wd).alloc (Nat.le_refl _) (.cells #[.int .i64 (a+1),.int .i64 a,.int .i64 a,.int .i64 (a-1)] 3 (0,0))).cell (p:=⟨xb,2,none⟩) hxb).trans y2
 have z:=(cell_of_row _ _ 1 _ _ _ (heap_alloc_new wd (.cells #[.int .i64 (a+1),.int .i64 a,.int .i64 a,.int .i64 (a-1)] 3 (0,0))))
 simp only[gq] at z
 try dsimp only
 refine hKK.out _ _ (⟨y1,y2⟩) (fun hHeld=> ?_)
 clear hKK KK
 try simp only[nmC]
 refine tk 13 (h:= ?_)
 try simp only[nmC]
 refine rd1 14 fun KK hKK=> ?_
 go_simp
 try dsimp only
 refine hKK.out _ _ (⟨y1,y2⟩) (fun hHeld=> ?_)
 clear hKK KK
 try simp only[nmC]
 refine tk 16 (h:= ?_)
 try simp only[nmC]
 refine wpAnyG_done (by kernel_rfl) ?_ _
 go_wp2_with fail
 go_ret2
 exact⟨rfl,by rw[HXB.out];exact HB.out.alloc (by omega) _⟩
theorem counted_sl2 (a at_:Int) (text:ByteArray) (ha:0≤a∧a≤30000) (w:World):Calls Tryz.prog 126 #[.agg #[.int .i64 26,.int .i64 a,.int .i64 2,.string text,.int .i64 at_]] w fun e w'=>e= .returned (.tuple #[.int .u8 118,.int .i64 (a)])∧Below w.heap.size w w':=by
 have w1:IntKind.i64.wrap (a+1)=a+1:=by rw[IntKind.wrap_i64];omega
 have w2:IntKind.i64.wrap (a-1)=a-1:=by rw[IntKind.wrap_i64];omega
 go_enter Tryz.func126,Tryz.ntmps126
 go_upto_region 12 with fail
 have hx:=heap_alloc_new w (.cells #[.int .i64 26,.int .i64 a,.int .i64 2,.string text,.int .i64 at_] 36 (0,0))
 have hB0:Below w.heap.size w (World.drew (w.alloc (.cells #[.int .i64 26,.int .i64 a,.int .i64 2,.string text,.int .i64 at_] 36 (0,0)))):=Below.drewN' ((Below.refl _ _).alloc (Nat.le_refl _) _) 1
 have hsz:(World.drew (w.alloc (.cells #[.int .i64 26,.int .i64 a,.int .i64 2,.string text,.int .i64 at_] 36 (0,0)))).heap.size=w.heap.size+1:=World.size_alloc _ _
 obtain⟨W1,hW1⟩:∃W1,w.alloc (.cells #[.int .i64 26,.int .i64 a,.int .i64 2,.string text,.int .i64 at_] 36 (0,0))=W1:=⟨_,rfl⟩
 obtain⟨xb,hxb0⟩:∃xb,w.heap.size=xb:=⟨_,rfl⟩
 simp only[hW1,hxb0] at hx hB0 hsz⊢
 have y1:(World.drew W1).cell? ⟨xb,1,none⟩=some (.int .i64 a):=cell_of_row W1 xb 1 _ _ _ hx
 have y2:(World.drew W1).cell? ⟨xb,2,none⟩=some (.int .i64 2):=cell_of_row W1 xb 2 _ _ _ hx
 have hxb:xb<(World.drew W1).heap.size:=by omega
 have HB:=Lib.hid hB0
 have HXB:=Lib.hid hxb0
 clear hx hB0 hsz hW1 hxb0
 refine wp_region_G [] (fun u=>u.cell? ⟨xb,1,none⟩=some (.int .i64 a)∧u.cell? ⟨xb,2,none⟩=some (.int .i64 2)) (by rfl) ?_ (fun hHeld=> ?_)
 ·exact⟨y1,y2⟩
 generalize hwd:World.drew W1=wd at HB y1 y2 hxb hHeld⊢
 refine tk 0 (h:=tk 1 (h:=tk 2 (h:=tk 3 (h:=tk 4 (h:=tk 5 (h:= ?_))))))
 try simp only[nmC]
 refine tk 6 (h:=tk 7 (h:=tk 8 (h:=tk 9 (h:=tk 11 (h:=tk 12 (h:= ?_))))))
 try simp only[nmC]
 refine tk 15 (h:= ?_)
 try simp only[nmC]
 refine rd1 10 fun KK hKK=> ?_
 go_simp
 have y1:=(((Below.refl wd.heap.size wd).alloc (Nat.le_refl _) (.cells #[.int .i64 (a+1),.int .i64 a,.int .i64 a,.int .i64 (a-1)] 3 (0,0))).cell (p:=⟨xb,1,none⟩) hxb).trans y1
 have y2:=(((Below.refl wd.heap.size wd).alloc (Nat.le_refl _) (.cells #[.int .i64 (a+1),.int .i64 a,.int .i64 a,.int .i64 (a-1)] 3 (0,0))).cell (p:=⟨xb,2,none⟩) hxb).trans y2
 have z:=(cell_of_row _ _ 2 _ _ _ (heap_alloc_new wd (.cells #[.int .i64 (a+1),.int .i64 a,.int .i64 a,.int .i64 (a-1)] 3 (0,0))))
 simp only[gq] at z
 try dsimp only
 refine hKK.out _ _ (⟨y1,y2⟩) (fun hHeld=> ?_)
 clear hKK KK
 try simp only[nmC]
 refine tk 13 (h:= ?_)
 try simp only[nmC]
 refine rd1 14 fun KK hKK=> ?_
 go_simp
 try dsimp only
 refine hKK.out _ _ (⟨y1,y2⟩) (fun hHeld=> ?_)
 clear hKK KK
 try simp only[nmC]
 refine tk 16 (h:= ?_)
 try simp only[nmC]
 refine wpAnyG_done (by kernel_rfl) ?_ _
 go_wp2_with fail
 go_ret2
 exact⟨rfl,by rw[HXB.out];exact HB.out.alloc (by omega) _⟩
theorem counted_sl3 (a at_:Int) (text:ByteArray) (ha:0≤a∧a≤30000) (w:World):Calls Tryz.prog 126 #[.agg #[.int .i64 26,.int .i64 a,.int .i64 3,.string text,.int .i64 at_]] w fun e w'=>e= .returned (.tuple #[.int .u8 118,.int .i64 (a-1)])∧Below w.heap.size w w':=by
 have w1:IntKind.i64.wrap (a+1)=a+1:=by rw[IntKind.wrap_i64];omega
 have w2:IntKind.i64.wrap (a-1)=a-1:=by rw[IntKind.wrap_i64];omega
 go_enter Tryz.func126,Tryz.ntmps126
 go_upto_region 12 with fail
 have hx:=heap_alloc_new w (.cells #[.int .i64 26,.int .i64 a,.int .i64 3,.string text,.int .i64 at_] 36 (0,0))
 have hB0:Below w.heap.size w (World.drew (w.alloc (.cells #[.int .i64 26,.int .i64 a,.int .i64 3,.string text,.int .i64 at_] 36 (0,0)))):=Below.drewN' ((Below.refl _ _).alloc (Nat.le_refl _) _) 1
 have hsz:(World.drew (w.alloc (.cells #[.int .i64 26,.int .i64 a,.int .i64 3,.string text,.int .i64 at_] 36 (0,0)))).heap.size=w.heap.size+1:=World.size_alloc _ _
 obtain⟨W1,hW1⟩:∃W1,w.alloc (.cells #[.int .i64 26,.int .i64 a,.int .i64 3,.string text,.int .i64 at_] 36 (0,0))=W1:=⟨_,rfl⟩
 obtain⟨xb,hxb0⟩:∃xb,w.heap.size=xb:=⟨_,rfl⟩
 simp only[hW1,hxb0] at hx hB0 hsz⊢
 have y1:(World.drew W1).cell? ⟨xb,1,none⟩=some (.int .i64 a):=cell_of_row W1 xb 1 _ _ _ hx
 have y2:(World.drew W1).cell? ⟨xb,2,none⟩=some (.int .i64 3):=cell_of_row W1 xb 2 _ _ _ hx
 have hxb:xb<(World.drew W1).heap.size:=by omega
 have HB:=Lib.hid hB0
 have HXB:=Lib.hid hxb0
 clear hx hB0 hsz hW1 hxb0
 refine wp_region_G [] (fun u=>u.cell? ⟨xb,1,none⟩=some (.int .i64 a)∧u.cell? ⟨xb,2,none⟩=some (.int .i64 3)) (by rfl) ?_ (fun hHeld=> ?_)
 ·exact⟨y1,y2⟩
 generalize hwd:World.drew W1=wd at HB y1 y2 hxb hHeld⊢
 refine tk 0 (h:=tk 1 (h:=tk 2 (h:=tk 3 (h:=tk 4 (h:=tk 5 (h:= ?_))))))
 try simp only[nmC]
 refine tk 6 (h:=tk 7 (h:=tk 8 (h:=tk 9 (h:=tk 11 (h:=tk 12 (h:= ?_))))))
 try simp only[nmC]
 refine tk 15 (h:= ?_)
 try simp only[nmC]
 refine rd1 10 fun KK hKK=> ?_
 go_simp
 have y1:=(((Below.refl wd.heap.size wd).alloc (Nat.le_refl _) (.cells #[.int .i64 (a+1),.int .i64 a,.int .i64 a,.int .i64 (a-1)] 3 (0,0))).cell (p:=⟨xb,1,none⟩) hxb).trans y1
 have y2:=(((Below.refl wd.heap.size wd).alloc (Nat.le_refl _) (.cells #[.int .i64 (a+1),.int .i64 a,.int .i64 a,.int .i64 (a-1)] 3 (0,0))).cell (p:=⟨xb,2,none⟩) hxb).trans y2
 have z:=(cell_of_row _ _ 3 _ _ _ (heap_alloc_new wd (.cells #[.int .i64 (a+1),.int .i64 a,.int .i64 a,.int .i64 (a-1)] 3 (0,0))))
 simp only[gq] at z
 try dsimp only
 refine hKK.out _ _ (⟨y1,y2⟩) (fun hHeld=> ?_)
 clear hKK KK
 try simp only[nmC]
 refine tk 13 (h:= ?_)
 try simp only[nmC]
 refine rd1 14 fun KK hKK=> ?_
 go_simp
 try dsimp only
 refine hKK.out _ _ (⟨y1,y2⟩) (fun hHeld=> ?_)
 clear hKK KK
 try simp only[nmC]
 refine tk 16 (h:= ?_)
 try simp only[nmC]
 refine wpAnyG_done (by kernel_rfl) ?_ _
 go_wp2_with fail
 go_ret2
 exact⟨rfl,by rw[HXB.out];exact HB.out.alloc (by omega) _⟩
theorem counted_slice (x:Ci) (h26:x.op=26) (ha:0≤x.a∧x.a≤30000) (hb:x.b=0∨x.b=1∨x.b=2∨x.b=3):CountedOk x:=by
 intro w
 obtain⟨op,a,b,text,at_⟩:=x
 dsimp only at h26 ha hb
 subst h26
 rcases hb with rfl|rfl|rfl|rfl
 ·exact counted_sl0 a at_ text ha w
 ·exact counted_sl1 a at_ text ha w
 ·exact counted_sl2 a at_ text ha w
 ·exact counted_sl3 a at_ text ha w
end Go.Proofs.YtagnicbknbmccaaGreatDoor
