/- code.inst of any line. What code.Read has come to, between two lines. -/
import Derived.Test.YtagnicbknbmccaaGreatDoorMCwF
import Derived.Test.YtagnicbknbmccaaGreatDoorSqC
import Derived.Test.YtagnicbknbmccaaGreatDoorMCyG
set_option maxRecDepth 100000
set_option maxHeartbeats 16000000
namespace Go.Proofs.YtagnicbknbmccaaGreatDoor
open Go.RowKit
def InsPost (w:World) (o:Option Ci) (e:Ending) (w':World):Prop:=Below w.heap.size w w'∧match o with
 |none=>e= .returned (.tuple #[.agg #[.int .i64 0,.int .i64 0,.int .i64 0,.string ⟨#[]⟩,.int .i64 0],.bool false])
 |some x=>e= .returned (.tuple #[.agg #[.int .i64 x.op,.int .i64 x.a,.int .i64 x.b,.string x.text,.int .i64 x.at_],.bool true])
abbrev ZRow:Obj:= .cells #[.int .i64 0,.int .i64 0,.int .i64 0,.string ⟨#[]⟩,.int .i64 0] 36 (0,0)
theorem ins_end {w W:World} (hb:Below w.heap.size w W) (hr:W.heap[w.heap.size]? =some (.cells #[.int .i64 0,.int .i64 0,.int .i64 0,.string ⟨#[]⟩,.int .i64 0] 36 (0,0))):
  (∀j:Nat,W.frozen? ⟨w.heap.size,j,none⟩=false)∧W.cell? ⟨w.heap.size,0,none⟩=some (.int .i64 0)∧W.cell? ⟨w.heap.size,1,none⟩=some (.int .i64 0)∧W.cell? ⟨w.heap.size,2,none⟩=some (.int .i64 0)∧W.cell? ⟨w.heap.size,3,none⟩=some (.string ⟨#[]⟩)∧W.cell? ⟨w.heap.size,4,none⟩=some (.int .i64 0)∧
  ∀v0 v1 v2 v3 v4:Value,Below w.heap.size w (((((W.setCell ⟨w.heap.size,0,none⟩ v0).setCell ⟨w.heap.size,1,none⟩ v1).setCell ⟨w.heap.size,2,none⟩ v2).setCell ⟨w.heap.size,3,none⟩ v3).setCell ⟨w.heap.size,4,none⟩ v4):=
 ⟨fun j=>frozen_of_row W _ j _ _ hr,cell_of_row W _ 0 _ _ _ hr,cell_of_row W _ 1 _ _ _ hr,cell_of_row W _ 2 _ _ _ hr,cell_of_row W _ 3 _ _ _ hr,cell_of_row W _ 4 _ _ _ hr,fun _ _ _ _ _=>((((hb.setCell (Nat.le_refl _) _).setCell (Nat.le_refl _) _).setCell (Nat.le_refl _) _).setCell (Nat.le_refl _) _).setCell (Nat.le_refl _) _⟩
theorem instR_cons (s:List UInt8) (o a b c:List UInt8) (t:List (List UInt8)) (h:splitM 32 4 s=o::a::b::c::t):instR s=match intsL [a,b,c] with
  |some [x,y,z]=>if operationL o=0 then none else match t with
   | []=>some ⟨operationL o,x,y,⟨#[]⟩,z⟩
   |q::_=>match unquoteL q with
    |some u=>if u=[]∨34::quoteL u++ [34]≠q then none else some ⟨operationL o,x,y,⟨⟨u⟩⟩,z⟩
    |none=>none
  |_=>none:=by
 unfold instR
 simp only[h]
 rcases intsL [a,b,c] with _|l
 ·rfl
 ·match l with
  | []=>rfl
  | [_]=>rfl
  | [_,_]=>rfl
  | [x,y,z]=>
   cases t with
   |nil=>rfl
   |cons q r=>cases unquoteL q<;>rfl
  |_::_::_::_::_=>rfl
theorem instR_short (s:List UInt8) (h:(splitM 32 4 s).length<4):instR s=none:=by
 unfold instR
 split
 ·rename_i he
  rw[he] at h
  simp at h
  omega
 ·rfl
theorem unq_len {q u:List UInt8} (h:unquoteL q=some u):u.length≤65536:=by
 unfold unquoteL at h
 split at h
 ·split at h
  ·split at h
   ·cases h
   ·rename_i h2
    injection h with h
    subst h
    omega
  ·cases h
 ·cases h
theorem inst_any {w:World} (hG:Gc w) (s:List UInt8) (hs:s.length≤100000000):
  Calls Tryz.prog 110 #[.string ⟨⟨s⟩⟩] w (InsPost w (instR s)):=by
 obtain⟨R,HR⟩:∃R,Hid (instR s=R):=⟨_,rfl⟩
 rw[HR.out]
 obtain⟨P,hP⟩:∃P,splitM 32 4 s=P:=⟨_,rfl⟩
 obtain⟨k,hk⟩:∃k,P.length=k:=⟨_,rfl⟩
 have HSP:Hid (∀W,Gc W→Calls Tryz.prog 149 #[.string ⟨⟨s⟩⟩,.string ⟨#[32]⟩,.int .i64 5] W fun e w'=>∃cp,e= .returned (.slice (some ⟨W.heap.size,0,none⟩) k cp)∧k≤cp∧cp≤5∧Below W.heap.size W w'∧W.heap.size<w'.heap.size∧∀j x,P[j]? =some x→w'.cell? ⟨W.heap.size,j,none⟩=some (.string ⟨⟨x⟩⟩)):=Lib.hid fun W hW=>by
  have:=splitN_any s (by omega) W hW
  rw[hP,hk] at this
  exact this
 obtain⟨p1,p2,p3,p4⟩:=splitM_len 32 4 s
 rw[hP] at p1 p2 p3 p4
 rw[hk] at p1 p2 p3
 have HL:Hid (∀t∈P,t.length≤140737488351232):=Lib.hid fun t ht=>by have:=p4 t ht;omega
 have HLQ:Hid (∀t∈P,t.length≤1000000000):=Lib.hid fun t ht=>by have:=p4 t ht;omega
 have HPE:=Lib.hid hP
 have HKE:=Lib.hid hk
 have HG:=Lib.hid hG
 clear p4 hG hP hk
 have hB0:Below w.heap.size w (w.alloc ZRow):=(Below.refl _ _).alloc (Nat.le_refl _) _
 have hr0:=heap_alloc_new w ZRow
 obtain⟨W0,hW0⟩:∃W0,w.alloc ZRow=W0:=⟨_,rfl⟩
 have hW0s:W0.heap.size=w.heap.size+1:=by rw[←hW0];simp
 have HW0:=Lib.hid hW0
 rw[hW0] at hB0 hr0
 clear hW0
 have HB0:=Lib.hid hB0
 have HR0:=Lib.hid hr0
 have HW0S:=Lib.hid hW0s
 clear hB0 hr0 hW0s
 go_enter Tryz.func110,Tryz.ntmps110
 go_upto_region 1 with fail
 simp only[show w.alloc (.cells #[.int .i64 0,.int .i64 0,.int .i64 0,.string ⟨#[]⟩,.int .i64 0] 36 (0,0))=W0 from HW0.out]
 go_upto_region 2 with(go_at_call 149;refine(HSP.out _ (HG.out.up HB0.out)).mono ?_;rintro e w1 ⟨cp,rfl,hkcp,hcp5,hb1,hlt1,hcl1⟩)
 obtain⟨rb,hrb⟩:∃rb,w.heap.size=rb:=⟨_,rfl⟩
 obtain⟨g,hg⟩:∃g,W0.heap.size=g:=⟨_,rfl⟩
 have hgr:rb<g:=by have:=HW0S.out;omega
 have HB1:=Lib.hid (HB0.out.trans (hb1.mono HB0.out.size))
 have HR1:=Lib.hid ((hb1.block _ (Array.getElem?_eq_some_iff.1 HR0.out).1).trans HR0.out)
 rw[hg] at hlt1 hcl1
 simp only[hg,hrb]
 have HC1:=Lib.hid hcl1
 have HG1:=Lib.hid (HG.out.up HB1.out)
 clear hb1 hcl1 HB0 HR0 HW0 HSP HW0S hg
 by_cases h4:k<4
 ·have hR:R=none:=by rw[←HR.out];exact instR_short s (by rw[HPE.out,HKE.out];exact h4)
  subst hR
  have d4:decide ((k:Int)<4)=true:=by simp;omega
  obtain⟨hfr,c0,c1,c2,c3,c4,hfin⟩:=ins_end HB1.out HR1.out
  rw[hrb] at hfr c0 c1 c2 c3 c4 hfin
  have f0:=hfr 0
  have f1:=hfr 1
  have f2:=hfr 2
  have f3:=hfr 3
  have f4:=hfr 4
  have HFIN:=Lib.hid hfin
  clear hfr hfin
  go_wp2_with fail
  refine bodyPost_ret (inst_result _ _ rb (.int .i64 0) (.int .i64 0) (.int .i64 0) (.string ⟨#[]⟩) (.int .i64 0) (.bool false) rfl rfl ?_ ?_ ?_ ?_ ?_) rfl ⟨by rw[hrb];exact HFIN.out _ _ _ _ _,rfl⟩
  iterate 5 (·first|(simp[c0,c1,c2,c3,c4];done)|(go_simp;done))
 ·obtain⟨o,a,b,c,t,hPP⟩:∃o a b c t,P=o::a::b::c::t:=by
   have:=HKE.out
   match P,this with
   | [],h=>simp at h;omega
   | [_],h=>simp at h;omega
   | [_,_],h=>simp at h;omega
   | [_,_,_],h=>simp at h;omega
   |o::a::b::c::t,_=>exact⟨o,a,b,c,t,rfl⟩
  subst hPP
  have d4:decide ((k:Int)<4)=false:=by simp;omega
  have hRE:=HR.out
  rw[instR_cons s o a b c t HPE.out] at hRE
  clear HR
  have hkt:t.length+4=k:=by have:=HKE.out;simpa using this
  have c0:=HC1.out 0 o rfl
  have b0:(0:Int)<(k:Int):=by omega
  have b4:(4:Int)≤(cp:Int):=by omega
  have b14:4≤cp:=by omega
  have HRW:Hid (RowIs w1 w1.heap.size (some ⟨g,1,none⟩) ([a,b,c].map fun s=>Value.string ⟨⟨s⟩⟩)):=Lib.hid (.inr ⟨g,1,rfl,hlt1,fun j v hj=>by
   match j,hj with
   |0,hj=>rw[←Option.some.inj hj];exact HC1.out 1 a rfl
   |1,hj=>rw[←Option.some.inj hj];exact HC1.out 2 b rfl
   |2,hj=>rw[←Option.some.inj hj];exact HC1.out 3 c rfl⟩)
  have HL3:Hid (∀t∈ [a,b,c],t.length≤140737488351232):=Lib.hid fun x hx=>HL.out x (by simp only[List.mem_cons,List.not_mem_nil,or_false] at hx⊢;rcases hx with h|h|h<;>simp[h])
  obtain⟨O,hO⟩:∃O,operationL o=O:=⟨_,rfl⟩
  have hop:=fun W=>operation_any o W
  rw[hO] at hop hRE
  have HOP:=Lib.hid hop
  clear hop hO
  have hrl:rb<w1.heap.size:=by omega
  have HKT:=Lib.hid hkt
  clear h4 hkt
  cases hi:intsL [a,b,c] with
  |none=>
   rw[hi] at hRE
   have hR:R=none:=hRE.symm
   subst hR
   have HI:=Lib.hid hi
   clear hi hRE
   go_upto_region 5 with(go_at_call 150;refine(ints_none (l:=[a,b,c]) HG1.out rfl HRW.out HI.out HL3.out (by simp)).mono ?_;rintro e w2 ⟨rfl,hb2⟩)
   have q0:=old_cell0 c0 hb2
   have HB2:=Lib.hid (HB1.out.trans (hb2.mono HB1.out.size))
   have HR2:=Lib.hid ((hb2.block w.heap.size (by rw[hrb];exact hrl)).trans HR1.out)
   have hs2:=hb2.size
   clear hb2 c0
   go_upto_region 6 with(go_at_call 151;refine(HOP.out _).mono ?_;rintro e w3 ⟨rfl,hb3⟩)
   have hB4:Below w2.heap.size w2 (w3.alloc (.cells #[.int .i64 O,.int .i64 0,.int .i64 0,.string ⟨#[]⟩,.int .i64 0] 36 (0,0))):=hb3.alloc hb3.size _
   obtain⟨W4,hW4⟩:∃W4,w3.alloc (.cells #[.int .i64 O,.int .i64 0,.int .i64 0,.string ⟨#[]⟩,.int .i64 0] 36 (0,0))=W4:=⟨_,rfl⟩
   simp only[hW4] at hB4⊢
   obtain⟨hfr,c0,c1,c2,c3,c4,hfin⟩:=ins_end (HB2.out.trans (hB4.mono HB2.out.size)) ((hB4.block w.heap.size (by omega)).trans HR2.out)
   rw[hrb] at hfr c0 c1 c2 c3 c4 hfin
   have f0:=hfr 0
   have f1:=hfr 1
   have f2:=hfr 2
   have f3:=hfr 3
   have f4:=hfr 4
   have HFIN:=Lib.hid hfin
   clear hfr hfin hB4 hb3 hW4
   go_wp2_with fail
   refine bodyPost_ret (inst_result _ _ rb (.int .i64 0) (.int .i64 0) (.int .i64 0) (.string ⟨#[]⟩) (.int .i64 0) (.bool false) rfl rfl ?_ ?_ ?_ ?_ ?_) rfl ⟨by rw[hrb];exact HFIN.out _ _ _ _ _,rfl⟩
   iterate 5 (·first|(simp[c0,c1,c2,c3,c4];done)|(go_simp;done))
  |some ns=>
   have hnl:=ints_len hi
   obtain⟨x,y,z,rfl⟩:∃x y z,ns=[x,y,z]:=by
    match ns,hnl with
    | [x,y,z],_=>exact⟨x,y,z,rfl⟩
   rw[hi] at hRE
   dsimp only at hRE
   have HI:=Lib.hid hi
   have HRE:=Lib.hid hRE
   clear hi hRE hnl
   go_upto_region 5 with(go_at_call 150;refine(ints_some (l:=[a,b,c]) HG1.out rfl HRW.out HI.out HL3.out (by simp)).mono ?_;rintro e w2 ⟨v2,rfl,ho2,hb2⟩)
   obtain⟨ig,icap,rfl,hig1,hig2⟩:=ho2.form (show 0< [a,b,c].length by simp)
   have j0:=ho2.cells (g:=ig) rfl 0 (.int .i64 x) rfl
   have j1:=ho2.cells (g:=ig) rfl 1 (.int .i64 y) rfl
   have j2:=ho2.cells (g:=ig) rfl 2 (.int .i64 z) rfl
   simp only[Addr.add_lit,Nat.zero_add] at j0 j1 j2
   have q0:=old_cell0 c0 hb2
   have HJ:=Lib.hid (And.intro j0 (And.intro j1 j2))
   have HR2:=Lib.hid ((hb2.block w.heap.size (by rw[hrb];exact hrl)).trans HR1.out)
   have HB2:=Lib.hid (HB1.out.trans (hb2.mono HB1.out.size))
   have HC2:Hid (∀j x,(o::a::b::c::t)[j]? =some x→w2.cell? ⟨g,j,none⟩=some (.string ⟨⟨x⟩⟩)):=Lib.hid fun j x hx=>(hb2.cell (p:=⟨g,j,none⟩) hlt1).trans (HC1.out j x hx)
   have hs2:=hb2.size
   clear j0 j1 j2 ho2 hb2 HR1 HB1 HC1 c0
   go_upto_region 6 with(go_at_call 151;refine(HOP.out _).mono ?_;rintro e w3 ⟨rfl,hb3⟩)
   have hx3:=heap_alloc_new w3 (.cells #[.int .i64 O,.int .i64 0,.int .i64 0,.string ⟨#[]⟩,.int .i64 0] 36 (0,0))
   have hB4:Below w2.heap.size w2 (w3.alloc (.cells #[.int .i64 O,.int .i64 0,.int .i64 0,.string ⟨#[]⟩,.int .i64 0] 36 (0,0))):=hb3.alloc hb3.size _
   have hs3:=hb3.size
   obtain⟨xb,hxb⟩:∃xb,w3.heap.size=xb:=⟨_,rfl⟩
   obtain⟨W4,hW4⟩:∃W4,w3.alloc (.cells #[.int .i64 O,.int .i64 0,.int .i64 0,.string ⟨#[]⟩,.int .i64 0] 36 (0,0))=W4:=⟨_,rfl⟩
   simp only[hW4,hxb] at hx3 hB4 hs3⊢
   have x0:=cell_of_row W4 xb 0 _ _ _ hx3
   simp only[gq] at x0
   have HX:=Lib.hid hx3
   have HB4:=Lib.hid (HB2.out.trans (hB4.mono HB2.out.size))
   have HR4:=Lib.hid ((hB4.block w.heap.size (by omega)).trans HR2.out)
   have HC4:Hid (∀j x,(o::a::b::c::t)[j]? =some x→W4.cell? ⟨g,j,none⟩=some (.string ⟨⟨x⟩⟩)):=Lib.hid fun j x hx=>(hB4.cell (p:=⟨g,j,none⟩) (by show g<w2.heap.size;omega)).trans (HC2.out j x hx)
   have i0:=old_cell0 HJ.out.1 hB4
   have i1:=old_cell0 HJ.out.2.1 hB4
   have i2:=old_cell0 HJ.out.2.2 hB4
   have hxg:ig≠xb:=by omega
   have hxr:rb≠xb:=by omega
   have hgx:g≠xb:=by omega
   have hrx:rb<xb:=by omega
   clear hx3 hB4 hW4 hxb hb3 HR2 HB2 HJ q0 HG1 HRW HOP HL3 HI HC2
   by_cases hO:O=0
   ·subst hO
    have hR:R=none:=by rw[←HRE.out,if_pos rfl]
    subst hR
    obtain⟨hfr,c0,c1,c2,c3,c4,hfin⟩:=ins_end HB4.out HR4.out
    rw[hrb] at hfr c0 c1 c2 c3 c4 hfin
    have f0:=hfr 0
    have f1:=hfr 1
    have f2:=hfr 2
    have f3:=hfr 3
    have f4:=hfr 4
    have HFIN:=Lib.hid hfin
    clear hfr hfin
    go_wp2_with fail
    refine bodyPost_ret (inst_result _ _ rb (.int .i64 0) (.int .i64 0) (.int .i64 0) (.string ⟨#[]⟩) (.int .i64 0) (.bool false) rfl rfl ?_ ?_ ?_ ?_ ?_) rfl ⟨by rw[hrb];exact HFIN.out _ _ _ _ _,rfl⟩
    iterate 5 (·first|(simp[c0,c1,c2,c3,c4];done)|(go_simp;done))
   ·have e0:((O:Int)==0)=false:=by simp[hO]
    have hRE:=HRE.out
    rw[if_neg hO] at hRE
    have HRE:=Lib.hid hRE
    clear hRE hO
    go_upto_region 8 with fail
    clear x0
    rw[hrb] at HB4 HR4
    go_cut [] (fun wx=>Hid (Below rb w wx)∧Hid (wx.heap[rb]? =some (.cells #[.int .i64 0,.int .i64 0,.int .i64 0,.string ⟨#[]⟩,.int .i64 0] 36 (0,0)))∧Hid (wx.heap[xb]? =some (.cells #[.int .i64 O,.int .i64 x,.int .i64 y,.string ⟨#[]⟩,.int .i64 z] 36 (0,0)))∧Hid (∀j x,(o::a::b::c::t)[j]? =some x→wx.cell? ⟨g,j,none⟩=some (.string ⟨⟨x⟩⟩)))
    case first=>
     have HX:=Lib.hid (show W4.drew.heap[xb]? =some (.cells #[.int .i64 O,.int .i64 0,.int .i64 0,.string ⟨#[]⟩,.int .i64 0] 36 (0,0)) from HX.out)
     have HR:=Lib.hid (show W4.drew.heap[rb]? =some (.cells #[.int .i64 0,.int .i64 0,.int .i64 0,.string ⟨#[]⟩,.int .i64 0] 36 (0,0)) from HR4.out)
     have HB:Hid (Below rb w W4.drew):=Lib.hid ⟨HB4.out.os,HB4.out.tape,HB4.out.output,HB4.out.size,HB4.out.block⟩
     have HC:=Lib.hid (show∀j x,(o::a::b::c::t)[j]? =some x→W4.drew.cell? ⟨g,j,none⟩=some (.string ⟨⟨x⟩⟩) from HC4.out)
     have hle:rb≤xb:=by omega
     have y1:=cell_of_row W4.drew xb 1 _ _ _ HX.out
     have y2:=cell_of_row W4.drew xb 2 _ _ _ HX.out
     have y4:=cell_of_row W4.drew xb 4 _ _ _ HX.out
     have f1:=frozen_of_row W4.drew xb 1 _ _ HX.out
     have f2:=frozen_of_row W4.drew xb 2 _ _ HX.out
     have f4:=frozen_of_row W4.drew xb 4 _ _ HX.out
     simp only[gq] at y1 y2 y4
     have i0:W4.drew.cell? ⟨ig,0,none⟩=some (.int .i64 x):=i0
     have i1:W4.drew.cell? ⟨ig,1,none⟩=some (.int .i64 y):=i1
     have i2:W4.drew.cell? ⟨ig,2,none⟩=some (.int .i64 z):=i2
     clear HB4 HR4 HC4
     refine wp_region_G [] (fun u=>u.cell? ⟨ig,0,none⟩=some (.int .i64 x)∧u.cell? ⟨ig,1,none⟩=some (.int .i64 y)∧u.cell? ⟨ig,2,none⟩=some (.int .i64 z)) (by rfl) ?_ (fun hHeld=> ?_)
     ·exact⟨i0,i1,i2⟩
     generalize hwd:World.drew W4=wd at HX HR HB HC y1 y2 y4 f1 f2 f4 i0 i1 i2 hHeld⊢
     refine tk 0 (h:=tk 1 (h:=tk 2 (h:=tk 3 (h:=tk 4 (h:=tk 5 (h:= ?_))))))
     try simp only[nmC]
     refine tk 6 (h:=tk 7 (h:=tk 8 (h:=tk 9 (h:= ?_))))
     try simp only[nmC]
     refine rd1 10 fun KK hKK=> ?_
     go_simp
     have i0:=set_other (a:=⟨xb,1,none⟩) (v:= .int .i64 x) i0 hxg
     have i1:=set_other (a:=⟨xb,1,none⟩) (v:= .int .i64 x) i1 hxg
     have i2:=set_other (a:=⟨xb,1,none⟩) (v:= .int .i64 x) i2 hxg
     refine hKK.out _ _ (⟨i0,i1,i2⟩) (fun hHeld=> ?_)
     clear hKK KK
     try simp only[nmC]
     refine tk 11 (h:= ?_)
     try simp only[nmC]
     refine rd1 12 fun KK hKK=> ?_
     go_simp
     have i0:=set_other (a:=⟨xb,2,none⟩) (v:= .int .i64 y) i0 hxg
     have i1:=set_other (a:=⟨xb,2,none⟩) (v:= .int .i64 y) i1 hxg
     have i2:=set_other (a:=⟨xb,2,none⟩) (v:= .int .i64 y) i2 hxg
     refine hKK.out _ _ (⟨i0,i1,i2⟩) (fun hHeld=> ?_)
     clear hKK KK
     try simp only[nmC]
     refine tk 13 (h:= ?_)
     try simp only[nmC]
     refine rd1 14 fun KK hKK=> ?_
     go_simp
     have i0:=set_other (a:=⟨xb,4,none⟩) (v:= .int .i64 z) i0 hxg
     have i1:=set_other (a:=⟨xb,4,none⟩) (v:= .int .i64 z) i1 hxg
     have i2:=set_other (a:=⟨xb,4,none⟩) (v:= .int .i64 z) i2 hxg
     refine hKK.out _ _ (⟨i0,i1,i2⟩) (fun hHeld=> ?_)
     clear hKK KK
     try simp only[nmC]
     refine wpAnyG_done (by kernel_rfl) ?_ _
     have hR:=(Below.heap_setCell (((wd.setCell ⟨xb,1,none⟩ (.int .i64 x)).setCell ⟨xb,2,none⟩ (.int .i64 y))) ⟨xb,4,none⟩ (.int .i64 z) rb hxr).trans ((Below.heap_setCell _ _ _ _ hxr).trans ((Below.heap_setCell _ _ _ _ hxr).trans HR.out))
     try go_wp2_with fail
     go_meet
     exact⟨Lib.hid (((HB.out.setCell hle _).setCell hle _).setCell hle _),Lib.hid hR,Lib.hid (heap_setCell_same _ _ 4 _ _ _ (heap_setCell_same _ _ 2 _ _ _ (heap_setCell_same _ _ 1 _ _ _ HX.out))),Lib.hid fun j x hx=>set_other (set_other (set_other (HC.out j x hx) hgx) hgx) hgx⟩
    case rest=>
     clear HB4 HR4 HC4 HX i0 i1 i2
     obtain⟨HB,HR,HX,HC⟩:=hcut
     cases t with
     |nil=>
      have hR:R=some ⟨O,x,y,⟨#[]⟩,z⟩:=HRE.out.symm
      subst hR
      have hk4:=HKT.out
      simp only[List.length_nil,Nat.zero_add] at hk4
      subst hk4
      obtain⟨hfr,r0,r1,r2,r3,r4,hfin⟩:=ins_end (w:=w) (W:=wc) (by rw[hrb];exact HB.out) (by rw[hrb];exact HR.out)
      rw[hrb] at hfr r0 r1 r2 r3 r4 hfin
      have f0:=hfr 0
      have f1:=hfr 1
      have f2:=hfr 2
      have f3:=hfr 3
      have f4:=hfr 4
      have HFIN:=Lib.hid hfin
      clear hfr hfin
      obtain⟨y0,y1,y2,y3,y4⟩:=cr5 wc xb HX.out
      simp only[gq] at y0 y1 y2 y3 y4
      go_wp2_with fail
      refine bodyPost_ret (inst_result _ _ rb (.int .i64 O) (.int .i64 x) (.int .i64 y) (.string ⟨#[]⟩) (.int .i64 z) (.bool true) rfl rfl ?_ ?_ ?_ ?_ ?_) rfl ⟨by rw[hrb];exact HFIN.out _ _ _ _ _,rfl⟩
      iterate 5 (·first|(simp[r0,r1,r2,r3,r4];done)|(go_simp;done))
     |cons q t2=>
      have ht2:t2=[]:=List.eq_nil_of_length_eq_zero (by have:=HKT.out;simp only[List.length_cons] at this;omega)
      subst ht2
      have hk5:=HKT.out
      simp only[List.length_cons,List.length_nil,Nat.zero_add] at hk5
      subst hk5
      have q4:=HC.out 4 q rfl
      have HUQ:=Lib.hid (fun W=>unquote_any q W (HLQ.out q (by simp)))
      have hRE:=HRE.out
      dsimp only at hRE
      have hgl:g<wc.heap.size:=World.block_lt_of_cell? wc _ q4
      have hrw:rb<wc.heap.size:=(Array.getElem?_eq_some_iff.1 HR.out).1
      have hxw:xb<wc.heap.size:=(Array.getElem?_eq_some_iff.1 HX.out).1
      cases hu:unquoteL q with
      |none=>
       rw[hu] at hRE HUQ
       have hR:R=none:=hRE.symm
       subst hR
       clear hRE hu HRE
       go_upto_region 11 with(go_at_call 152;refine(HUQ.out _).mono ?_;rintro e w5 ⟨hb5,pe,rfl⟩)
       have q50:=old_cell0 q4 hb5
       have q5:w5.drew.cell? ⟨g,4,none⟩=some (.string ⟨⟨q⟩⟩):=q50
       have HD5:Hid (Below wc.heap.size wc w5.drew):=Lib.hid ⟨hb5.os,hb5.tape,hb5.output,hb5.size,hb5.block⟩
       clear hb5 q4 q50
       refine wp_region_G [] (fun u=>u.cell? ⟨g,4,none⟩=some (.string ⟨⟨q⟩⟩)) (by rfl) ?_ (fun hHeld=> ?_)
       ·exact q5
       generalize hwd:World.drew w5=wd at q5 HD5 hHeld⊢
       refine tk 0 (h:=tk 1 (h:=tk 2 (h:=tu 3 (h:=tu 4 (h:=tk 5 (h:= ?_))))))
       try simp only[nmC]
       refine tk 6 (h:=tu 7 (h:=tu 8 (h:=tu 9 (h:=tu 10 (h:=tu 11 (h:= ?_))))))
       try simp only[nmC]
       refine tu 12 (h:=tk 13 (h:= ?_))
       try simp only[nmC]
       refine wpAnyG_done (by kernel_rfl) ?_ _
       have hd6:=HD5.out
       have HB6:Hid (Below rb w wd):=Lib.hid (HB.out.trans (hd6.mono (by omega)))
       have HR6:=Lib.hid ((hd6.block rb hrw).trans HR.out)
       have HX6:=Lib.hid ((hd6.block xb hxw).trans HX.out)
       obtain⟨hfr,r0,r1,r2,r3,r4,hfin⟩:=ins_end (w:=w) (W:=wd) (by rw[hrb];exact HB6.out) (by rw[hrb];exact HR6.out)
       rw[hrb] at hfr r0 r1 r2 r3 r4 hfin
       have f0:=hfr 0
       have f1:=hfr 1
       have f2:=hfr 2
       have f3:=hfr 3
       have f4:=hfr 4
       have HFIN:=Lib.hid hfin
       obtain⟨y0,y1,y2,y3,y4⟩:=cr5 wd xb HX6.out
       have g3:=frozen_of_row wd xb 3 _ _ HX6.out
       simp only[gq] at y0 y1 y2 y3 y4
       have hxr2:xb≠rb:=Ne.symm hxr
       clear hfr hfin hd6
       go_wp2_with fail
       refine bodyPost_ret (inst_result _ _ rb (.int .i64 0) (.int .i64 0) (.int .i64 0) (.string ⟨#[]⟩) (.int .i64 0) (.bool false) rfl rfl ?_ ?_ ?_ ?_ ?_) rfl ⟨by rw[hrb];exact HFIN.out _ _ _ _ _,rfl⟩
       iterate 5 (·first|(simp[r0,r1,r2,r3,r4];done)|(go_simp;done))
      |some u=>
       have hul:=unq_len hu
       rw[hu] at hRE HUQ
       dsimp only at hRE
       clear hu HRE
       by_cases hu0:u=[]
       ·subst hu0
        have hR:R=none:=by rw[←hRE,if_pos (.inl rfl)]
        subst hR
        clear hRE
        go_upto_region 11 with(go_at_call 152;refine(HUQ.out _).mono ?_;rintro e w5 ⟨hb5,rfl⟩)
        have q50:=old_cell0 q4 hb5
        have q5:w5.drew.cell? ⟨g,4,none⟩=some (.string ⟨⟨q⟩⟩):=q50
        have HD5:Hid (Below wc.heap.size wc w5.drew):=Lib.hid ⟨hb5.os,hb5.tape,hb5.output,hb5.size,hb5.block⟩
        clear hb5 q4 q50
        refine wp_region_G [] (fun u=>u.cell? ⟨g,4,none⟩=some (.string ⟨⟨q⟩⟩)) (by rfl) ?_ (fun hHeld=> ?_)
        ·exact q5
        generalize hwd:World.drew w5=wd at q5 HD5 hHeld⊢
        refine tk 0 (h:=tk 1 (h:=tk 2 (h:=tk 3 (h:=tk 4 (h:=tk 5 (h:= ?_))))))
        try simp only[nmC]
        refine tk 6 (h:=tu 7 (h:=tu 8 (h:=tu 9 (h:=tu 10 (h:=tu 11 (h:= ?_))))))
        try simp only[nmC]
        refine tu 12 (h:=tk 13 (h:= ?_))
        try simp only[nmC]
        refine wpAnyG_done (by kernel_rfl) ?_ _
        have hd6:=HD5.out
        have HB6:Hid (Below rb w wd):=Lib.hid (HB.out.trans (hd6.mono (by omega)))
        have HR6:=Lib.hid ((hd6.block rb hrw).trans HR.out)
        have HX6:=Lib.hid ((hd6.block xb hxw).trans HX.out)
        obtain⟨hfr,r0,r1,r2,r3,r4,hfin⟩:=ins_end (w:=w) (W:=wd) (by rw[hrb];exact HB6.out) (by rw[hrb];exact HR6.out)
        rw[hrb] at hfr r0 r1 r2 r3 r4 hfin
        have f0:=hfr 0
        have f1:=hfr 1
        have f2:=hfr 2
        have f3:=hfr 3
        have f4:=hfr 4
        have HFIN:=Lib.hid hfin
        obtain⟨y0,y1,y2,y3,y4⟩:=cr5 wd xb HX6.out
        have g3:=frozen_of_row wd xb 3 _ _ HX6.out
        simp only[gq] at y0 y1 y2 y3 y4
        have hxr2:xb≠rb:=Ne.symm hxr
        clear hfr hfin hd6
        go_wp2_with fail
        refine bodyPost_ret (inst_result _ _ rb (.int .i64 0) (.int .i64 0) (.int .i64 0) (.string ⟨#[]⟩) (.int .i64 0) (.bool false) rfl rfl ?_ ?_ ?_ ?_ ?_) rfl ⟨by rw[hrb];exact HFIN.out _ _ _ _ _,rfl⟩
        iterate 5 (·first|(simp[r0,r1,r2,r3,r4];done)|(go_simp;done))
       ·have eu:u.isEmpty=false:=by simpa using hu0
        have HQT:=Lib.hid (fun W=>Quote_any u W (by omega))
        obtain⟨Q,hQ⟩:∃Q,34::quoteL u++ [34]=Q:=⟨_,rfl⟩
        rw[hQ] at hRE HQT
        clear hQ
        by_cases hqq:Q=q
        ·obtain rfl:q=Q:=hqq.symm
         have hR:R=some ⟨O,x,y,⟨⟨u⟩⟩,z⟩:=by rw[←hRE,if_neg (by simp[hu0])]
         subst hR
         clear hRE
         go_upto_region 11 with(go_at_call 152;refine(HUQ.out _).mono ?_;rintro e w5 ⟨hb5,rfl⟩)
         have q50:=old_cell0 q4 hb5
         have q5:w5.drew.cell? ⟨g,4,none⟩=some (.string ⟨⟨q⟩⟩):=q50
         have HD5:Hid (Below wc.heap.size wc w5.drew):=Lib.hid ⟨hb5.os,hb5.tape,hb5.output,hb5.size,hb5.block⟩
         clear hb5 q4 q50
         refine wp_region_G [] (fun u=>u.cell? ⟨g,4,none⟩=some (.string ⟨⟨q⟩⟩)) (by rfl) ?_ (fun hHeld=> ?_)
         ·exact q5
         generalize hwd:World.drew w5=wd at q5 HD5 hHeld⊢
         refine tk 0 (h:=tk 1 (h:=tk 2 (h:=tk 3 (h:=tk 4 (h:=tk 5 (h:= ?_))))))
         try simp only[nmC]
         refine tk 6 (h:=tk 7 (h:=tk 9 (h:=tk 10 (h:=tk 11 (h:= ?_)))))
         try simp only[nmC]
         refine rd1 8 fun KK hKK=> ?_
         go_simp
         go_at_call 45
         refine(HQT.out _).mono ?_
         rintro e wq ⟨rfl,hbq⟩
         have q5:=old_cell0 q5 hbq
         have HBQ:=Lib.hid hbq
         clear hbq
         try dsimp only
         refine hKK.out _ _ (q5) (fun hHeld=> ?_)
         clear hKK KK
         try simp only[nmC]
         refine tk 12 (h:=tk 13 (h:= ?_))
         try simp only[nmC]
         refine wpAnyG_done (by kernel_rfl) ?_ _
         have hd6:=HD5.out.trans (HBQ.out.mono HD5.out.size)
         have HB6:Hid (Below rb w wq):=Lib.hid (HB.out.trans (hd6.mono (by omega)))
         have HR6:=Lib.hid ((hd6.block rb hrw).trans HR.out)
         have HX6:=Lib.hid ((hd6.block xb hxw).trans HX.out)
         obtain⟨hfr,r0,r1,r2,r3,r4,hfin⟩:=ins_end (w:=w) (W:=wq) (by rw[hrb];exact HB6.out) (by rw[hrb];exact HR6.out)
         rw[hrb] at hfr r0 r1 r2 r3 r4 hfin
         have f0:=hfr 0
         have f1:=hfr 1
         have f2:=hfr 2
         have f3:=hfr 3
         have f4:=hfr 4
         have HFIN:=Lib.hid hfin
         obtain⟨y0,y1,y2,y3,y4⟩:=cr5 wq xb HX6.out
         have g3:=frozen_of_row wq xb 3 _ _ HX6.out
         simp only[gq] at y0 y1 y2 y3 y4
         have hxr2:xb≠rb:=Ne.symm hxr
         clear hfr hfin hd6
         go_wp2_with fail
         refine bodyPost_ret (inst_result _ _ rb (.int .i64 O) (.int .i64 x) (.int .i64 y) (.string ⟨⟨u⟩⟩) (.int .i64 z) (.bool true) rfl rfl ?_ ?_ ?_ ?_ ?_) rfl ⟨?_,rfl⟩
         iterate 5 (·first|(simp[r0,r1,r2,r3,r4];done)|(go_simp;done))
         ·rw[hrb]
          exact(((((HB6.out.setCell (by show rb≤xb;omega) _).setCell (Nat.le_refl _) _).setCell (Nat.le_refl _) _).setCell (Nat.le_refl _) _).setCell (Nat.le_refl _) _).setCell (Nat.le_refl _) _
        ·have hR:R=none:=by rw[←hRE,if_pos (.inr hqq)]
         subst hR
         have eq1:(Q==q)=false:=by simpa using hqq
         have eq2:(Q !=q)=true:=by simpa using hqq
         clear hRE
         go_upto_region 11 with(go_at_call 152;refine(HUQ.out _).mono ?_;rintro e w5 ⟨hb5,rfl⟩)
         have q50:=old_cell0 q4 hb5
         have q5:w5.drew.cell? ⟨g,4,none⟩=some (.string ⟨⟨q⟩⟩):=q50
         have HD5:Hid (Below wc.heap.size wc w5.drew):=Lib.hid ⟨hb5.os,hb5.tape,hb5.output,hb5.size,hb5.block⟩
         clear hb5 q4 q50
         refine wp_region_G [] (fun u=>u.cell? ⟨g,4,none⟩=some (.string ⟨⟨q⟩⟩)) (by rfl) ?_ (fun hHeld=> ?_)
         ·exact q5
         generalize hwd:World.drew w5=wd at q5 HD5 hHeld⊢
         refine tk 0 (h:=tk 1 (h:=tk 2 (h:=tk 3 (h:=tk 4 (h:=tk 5 (h:= ?_))))))
         try simp only[nmC]
         refine tk 6 (h:=tk 7 (h:=tk 9 (h:=tk 10 (h:=tk 11 (h:= ?_)))))
         try simp only[nmC]
         refine rd1 8 fun KK hKK=> ?_
         go_simp
         go_at_call 45
         refine(HQT.out _).mono ?_
         rintro e wq ⟨rfl,hbq⟩
         have q5:=old_cell0 q5 hbq
         have HBQ:=Lib.hid hbq
         clear hbq
         try dsimp only
         refine hKK.out _ _ (q5) (fun hHeld=> ?_)
         clear hKK KK
         try simp only[nmC]
         refine tk 12 (h:=tk 13 (h:= ?_))
         try simp only[nmC]
         refine wpAnyG_done (by kernel_rfl) ?_ _
         have hd6:=HD5.out.trans (HBQ.out.mono HD5.out.size)
         have HB6:Hid (Below rb w wq):=Lib.hid (HB.out.trans (hd6.mono (by omega)))
         have HR6:=Lib.hid ((hd6.block rb hrw).trans HR.out)
         have HX6:=Lib.hid ((hd6.block xb hxw).trans HX.out)
         obtain⟨hfr,r0,r1,r2,r3,r4,hfin⟩:=ins_end (w:=w) (W:=wq) (by rw[hrb];exact HB6.out) (by rw[hrb];exact HR6.out)
         rw[hrb] at hfr r0 r1 r2 r3 r4 hfin
         have f0:=hfr 0
         have f1:=hfr 1
         have f2:=hfr 2
         have f3:=hfr 3
         have f4:=hfr 4
         have HFIN:=Lib.hid hfin
         obtain⟨y0,y1,y2,y3,y4⟩:=cr5 wq xb HX6.out
         have g3:=frozen_of_row wq xb 3 _ _ HX6.out
         simp only[gq] at y0 y1 y2 y3 y4
         have hxr2:xb≠rb:=Ne.symm hxr
         clear hfr hfin hd6
         go_wp2_with fail
         refine bodyPost_ret (inst_result _ _ rb (.int .i64 0) (.int .i64 0) (.int .i64 0) (.string ⟨#[]⟩) (.int .i64 0) (.bool false) rfl rfl ?_ ?_ ?_ ?_ ?_) rfl ⟨by rw[hrb];exact HFIN.out _ _ _ _ _,rfl⟩
         iterate 5 (·first|(simp[r0,r1,r2,r3,r4];done)|(go_simp;done))
theorem RowIs.at_ {w w':World} {B B':Nat} {A:Option Addr} {cs:List Value} (h:RowIs w B A cs) (hk:∀g o,cs≠ []→A=some ⟨g,o,none⟩→w'.heap[g]? =w.heap[g]?) (hB:B≤B'):RowIs w' B' A cs:=by
 by_cases h0:cs=[]
 ·exact .inl h0
 ·rcases h with h|⟨g,o,hA,hg,hc⟩
  ·exact .inl h
  ·exact .inr ⟨g,o,hA,Nat.lt_of_lt_of_le hg hB,fun j v hj=>(World.cell?_of_block (w:=w) (a:=⟨g,o+j,none⟩) (hk g o h0 hA)).trans (hc j v hj)⟩
abbrev CV (x:Cf×Fv):Value:= .slice x.2.ca x.1.code.length x.2.cc
def KB (x:Cf×Fv) (g:Nat):Prop:=(CV x).ownBlock=some g
def TB (x:Cf×Fv) (g:Nat):Prop:=x.1.taken≠ []∧∃o,x.2.ta=some ⟨g,o,none⟩
def GB (ga:Option Addr) (gs:List ByteArray) (g:Nat):Prop:=gs≠ []∧∃o,ga=some ⟨g,o,none⟩
structure RdG (lo:Nat) (W0 W:World) (pb:Nat) (vf:Value) (ga:Option Addr) (m gc:Nat) (xs:List (Cf×Fv)) (gs:List ByteArray):Prop where
 low:Below lo W0 W
 box:W.heap[pb]? =some (.cells #[vf,.slice ga m gc] 27 (0,0))
 lp:lo≤pb
 fns:W.ownsRow lo 33 6 vf xs.length (xs.flatMap fnCells)
 codes:∀x∈xs,W.ownsRow lo 36 5 (CV x) x.1.code.length (x.1.code.flatMap insCells)
 takes:∀x∈xs,RowIs W W.heap.size x.2.ta (x.1.taken.map (Value.int .i64))∧x.1.taken.length≤x.2.tc
 gn:gs.length=m
 gcap:m≤gc
 globs:RowIs W W.heap.size ga (gs.map Value.string)
 v1:∀g,vf.ownBlock=some g→g≠pb∧¬GB ga gs g∧∀x∈xs,¬KB x g∧¬TB x g
 k1:∀x∈xs,∀g,KB x g→g≠pb∧¬GB ga gs g∧∀y∈xs,¬TB y g
 k2:xs.Pairwise fun x y=>∀g,KB x g→¬KB y g
 t1:∀x∈xs,∀g,TB x g→g≠pb∧lo≤g
 g1:∀g,GB ga gs g→g≠pb∧lo≤g
theorem nonempty_map {α β:Type} {f:α→β} {l:List α} (h:l.map f≠ []):l≠ []:=fun e=>h (by rw[e];rfl)
section
variable {lo:Nat} {W0 W W' W2:World} {pb g2 cap2 m gc:Nat} {vf:Value} {ga:Option Addr} {xs ys:List (Cf×Fv)} {gs:List ByteArray} {o:Obj}
theorem RdG.plt (h:RdG lo W0 W pb vf ga m gc xs gs):pb<W.heap.size:=(Array.getElem?_eq_some_iff.1 h.box).1
theorem RdG.lo_le (h:RdG lo W0 W pb vf ga m gc xs gs):lo≤W.heap.size:=by have:=h.plt;have:=h.lp;omega
theorem RdG.tlt (h:RdG lo W0 W pb vf ga m gc xs gs) {x:Cf×Fv} (hx:x∈xs) {g:Nat} (hg:TB x g):g<W.heap.size:=by
 obtain⟨h0,o,ho⟩:=hg
 rcases(h.takes x hx).1 with e|⟨g',o',hA,hl,_⟩
 ·exact absurd (by simpa using e) h0
 ·rw[ho] at hA;injection hA with hA;injection hA with hA _ _;omega
theorem RdG.glt (h:RdG lo W0 W pb vf ga m gc xs gs) {g:Nat} (hg:GB ga gs g):g<W.heap.size:=by
 obtain⟨h0,o,ho⟩:=hg
 rcases h.globs with e|⟨g',o',hA,hl,_⟩
 ·exact absurd (by simpa using e) h0
 ·rw[ho] at hA;injection hA with hA;injection hA with hA _ _;omega
theorem RdG.keep (h:RdG lo W0 W pb vf ga m gc xs gs) (hl:Below lo W0 W') (hs:W.heap.size≤W'.heap.size) (hp:W'.heap[pb]? =W.heap[pb]?) (hv:∀g,vf.ownBlock=some g→W'.heap[g]? =W.heap[g]?) (hk:∀x∈xs,∀g,KB x g→W'.heap[g]? =W.heap[g]?)
  (ht:∀x∈xs,∀g,TB x g→W'.heap[g]? =W.heap[g]?) (hg:∀g,GB ga gs g→W'.heap[g]? =W.heap[g]?):RdG lo W0 W' pb vf ga m gc xs gs:=
 ⟨hl,hp.trans h.box,h.lp,own_keep h.fns hv,fun x hx=>own_keep (h.codes x hx) (hk x hx),fun x hx=>⟨(h.takes x hx).1.at_ (fun g o h0 hA=>ht x hx g ⟨nonempty_map h0,o,hA⟩) hs,(h.takes x hx).2⟩,h.gn,h.gcap,h.globs.at_ (fun g o h0 hA=>hg g ⟨nonempty_map h0,o,hA⟩) hs,h.v1,h.k1,h.k2,h.t1,h.g1⟩
theorem RdG.under (h:RdG lo W0 W pb vf ga m gc xs gs) (hb:Below W.heap.size W W'):RdG lo W0 W' pb vf ga m gc xs gs:=
 h.keep (h.low.trans (hb.mono h.lo_le)) hb.size (hb.block pb h.plt) (fun g hg=>hb.block g (h.fns.lt g hg).2) (fun x hx g hg=>hb.block g ((h.codes x hx).lt g hg).2) (fun _x hx g hg=>hb.block g (h.tlt hx hg)) fun g hg=>hb.block g (h.glt hg)
theorem RdG.alloc (h:RdG lo W0 W pb vf ga m gc xs gs) (p:Obj):RdG lo W0 (W.alloc p) pb vf ga m gc xs gs:=h.under ((Below.refl _ _).alloc (Nat.le_refl _) _)
theorem RdG.drew (h:RdG lo W0 W pb vf ga m gc xs gs):RdG lo W0 W.drew pb vf ga m gc xs gs:=h.under ⟨rfl,rfl,rfl,Nat.le_refl _,fun _ _=>rfl⟩
theorem RdG.pg (h:RdG lo W0 W pb vf ga m gc xs gs) {p:Cp} (hp:p=⟨xs.map Prod.fst,gs⟩):∃n fa fc,vf= .slice fa n fc∧n≤fc∧PgAt W p n m fa ga xs:=by
 subst hp
 obtain⟨fa,fc,rfl,_,_⟩:=row_form h.fns
 exact⟨_,fa,fc,rfl,(own_row h.fns).2,by simp,h.gn,rfl,(own_row h.fns).1,h.globs,fun x hx=>⟨(h.takes x hx).1,(own_row (h.codes x hx)).1,(h.takes x hx).2,(own_row (h.codes x hx)).2⟩⟩
theorem RdG.pushI {x:Cf×Fv} {ci:Ci} {gf cap:Nat} (h:RdG lo W0 W pb vf ga m gc (ys++ [x]) gs) (hvf:vf= .slice (some ⟨gf,0,none⟩) (ys.length+1) cap)
  (ho:W2.ownsRow lo 36 5 (.slice (some ⟨g2,0,none⟩) (x.1.code.length+1) cap2) (x.1.code.length+1) (x.1.code.flatMap insCells++insCells ci)) (hg:(W.alloc o).grownBy W2 (CV x).ownBlock) (hb:(CV x).ownBlock=some g2∨g2=(W.alloc o).heap.size):
  (W2.cell? ⟨gf,ys.length*6+5,none⟩=some (CV x)∧W2.frozen? ⟨gf,ys.length*6+5,none⟩=false)∧
  RdG lo W0 (W2.setCell ⟨gf,ys.length*6+5,none⟩ (.slice (some ⟨g2,0,none⟩) (x.1.code.length+1) cap2)) pb vf ga m gc (ys++ [({x.1 with code:=x.1.code++ [ci]},⟨x.2.ta,x.2.tc,some ⟨g2,0,none⟩,cap2⟩)]) gs:=by
 have hx:x∈ys++ [x]:=by simp
 have hlen:(ys++ [x]).length=ys.length+1:=by simp
 have hvb:vf.ownBlock=some gf:=by rw[hvf];rfl
 have hsz:(W.alloc o).heap.size=W.heap.size+1:=World.size_alloc _ _
 have hgs:=hg.size
 have hgf:=h.fns.lt gf hvb
 have hv:=h.v1 gf hvb
 have hkx:∀k,(CV x).ownBlock=some k→lo≤k∧k<W.heap.size:=fun k hk=>(h.codes x hx).lt k hk
 have hK:∀k,k<W.heap.size→(CV x).ownBlock≠some k→W2.heap[k]? =W.heap[k]? :=fun k hk hn=>grown_keep hg hk hn
 have hset:∀k,k≠gf→(W2.setCell ⟨gf,ys.length*6+5,none⟩ (.slice (some ⟨g2,0,none⟩) (x.1.code.length+1) cap2)).heap[k]? =W2.heap[k]? :=fun k hk=>Below.heap_setCell W2 _ _ _ hk
 have hg2n:g2≠pb∧¬GB ga gs g2∧g2≠gf∧(∀y∈ys++ [x],¬TB y g2)∧∀y∈ys,¬KB y g2:=by
  rcases hb with e|e
  ·obtain⟨a1,a2,a3⟩:=h.k1 x hx g2 e
   refine⟨a1,a2,fun e2=>(hv.2.2 x hx).1 (by rw[←e2];exact e),a3,fun y hy hky=> ?_⟩
   have:=(List.pairwise_append.1 h.k2).2.2 y hy x (by simp) g2 hky
   exact this e
  ·rw[hsz] at e
   refine⟨by have:=h.plt;omega,fun hgb=>by have:=h.glt hgb;omega,by omega,fun y hy ht=>by have:=h.tlt hy ht;omega,fun y hy hk=>by have:=((h.codes y (by simp[hy])).lt g2 hk).2;omega⟩
 have hf2:W2.ownsRow lo 33 6 vf (ys++ [x]).length ((ys++ [x]).flatMap fnCells):=own_keep h.fns fun g hgv=>by
  rw[hvb] at hgv;injection hgv with hgv;subst hgv
  exact hK _ hgf.2 fun e=>(hv.2.2 x hx).1 e
 have hi5:ys.length*6+5<((ys++ [x]).flatMap fnCells).length:=by rw[flat_len fn_len,hlen];omega
 have hcell5:((ys++ [x]).flatMap fnCells)[ys.length*6+5]? =some (CV x):=by
  rw[flat_at fn_len (ys++ [x]) ys.length x (by simp) 5 (by decide)]
  rfl
 have hf3:=hf2
 rw[hvf,hlen] at hf3
 refine⟨⟨(hf3.cellAt (ys.length*6+5) (by omega)).trans hcell5,hf3.frozenAt _⟩, ?_⟩
 have hbW2:Below lo W0 W2:=(h.low.alloc h.lo_le o).trans ⟨hg.os,hg.tape,hg.output,hg.size,fun k hk=>hg.block k (by omega) (fun e=>by have:=(hkx k e.symm).1;omega)⟩
 have key:∀k,k<W.heap.size→k≠gf→(CV x).ownBlock≠some k→(W2.setCell ⟨gf,ys.length*6+5,none⟩ (.slice (some ⟨g2,0,none⟩) (x.1.code.length+1) cap2)).heap[k]? =W.heap[k]? :=fun k h1 h2 h3=>(hset k h2).trans (hK k h1 h3)
 have hTB:∀g,TB (({x.1 with code:=x.1.code++ [ci]},⟨x.2.ta,x.2.tc,some ⟨g2,0,none⟩,cap2⟩):Cf×Fv) g ↔ TB x g:=fun g=>Iff.rfl
 have hKBn:∀g,KB (({x.1 with code:=x.1.code++ [ci]},⟨x.2.ta,x.2.tc,some ⟨g2,0,none⟩,cap2⟩):Cf×Fv) g→g=g2:=fun g hk=>by
  have:(Value.slice (some ⟨g2,0,none⟩) (x.1.code++ [ci]).length cap2).ownBlock=some g:=hk
  simpa[Value.ownBlock] using this.symm
 have hmem:∀y∈ys,y∈ys++ [x]:=fun y hy=>by simp[hy]
 refine⟨hbW2.setCell hgf.1 _, ?_,h.lp, ?_,fun y hy=> ?_,fun y hy=> ?_,h.gn,h.gcap, ?_,fun g hgv=> ?_,fun y hy g hk=> ?_, ?_,fun y hy g ht=> ?_,h.g1⟩
 ·exact(key pb h.plt (Ne.symm hv.1) fun e=>(h.k1 x hx pb e).1 rfl).trans h.box
 ·have h5:=hf3.stored (ys.length*6+5) (.slice (some ⟨g2,0,none⟩) (x.1.code.length+1) cap2)
  have h6:=h5.1
  have e6:((ys++ [x]).flatMap fnCells).set (ys.length*6+5) (.slice (some ⟨g2,0,none⟩) (x.1.code.length+1) cap2)=(ys++ [(({x.1 with code:=x.1.code++ [ci]},⟨x.2.ta,x.2.tc,some ⟨g2,0,none⟩,cap2⟩):Cf×Fv)]).flatMap fnCells:=by
   rw[List.flatMap_append,List.flatMap_append,List.set_append_right _ _ (by rw[flat_len fn_len];omega),flat_len fn_len]
   rw[show ys.length*6+5-ys.length*6=5 by omega]
   simp[fnCells]
  rw[e6] at h6
  rw[hvf]
  simpa using h6
 ·rcases List.mem_append.1 hy with hy|hy
  ·refine own_keep (h.codes y (hmem y hy)) fun g hgk=>key g ((h.codes y (hmem y hy)).lt g hgk).2 (fun e=>(hv.2.2 y (hmem y hy)).1 (by rw[←e];exact hgk)) fun e=> ?_
   exact(List.pairwise_append.1 h.k2).2.2 y hy x (by simp) g hgk e
  ·rw[List.mem_singleton.1 hy]
   show(W2.setCell _ _).ownsRow lo _ 5 (.slice (some ⟨g2,0,none⟩) (x.1.code++ [ci]).length cap2) (x.1.code++ [ci]).length ((x.1.code++ [ci]).flatMap insCells)
   rw[List.length_append,List.flatMap_append]
   simp only[List.flatMap_cons,List.flatMap_nil,List.append_nil,List.length_cons,List.length_nil,Nat.zero_add]
   refine own_keep ho fun g hgo=>hset g ?_
   simp only[Value.ownBlock,Option.some.injEq] at hgo
   rw[←hgo];exact hg2n.2.2.1
 ·have hrow:∀z∈ys++ [x],RowIs (W2.setCell ⟨gf,ys.length*6+5,none⟩ (.slice (some ⟨g2,0,none⟩) (x.1.code.length+1) cap2)) (W2.setCell ⟨gf,ys.length*6+5,none⟩ (.slice (some ⟨g2,0,none⟩) (x.1.code.length+1) cap2)).heap.size z.2.ta (z.1.taken.map (Value.int .i64)):=fun z hz=>
   (h.takes z hz).1.at_ (fun g o h0 hA=>key g (h.tlt hz ⟨nonempty_map h0,o,hA⟩) (fun e=>(hv.2.2 z hz).2 (by rw[←e];exact⟨nonempty_map h0,o,hA⟩)) fun e=>(h.k1 x hx g e).2.2 z hz ⟨nonempty_map h0,o,hA⟩) (by simp only[World.size_setCell];omega)
  rcases List.mem_append.1 hy with hy|hy
  ·exact⟨hrow y (hmem y hy),(h.takes y (hmem y hy)).2⟩
  ·rw[List.mem_singleton.1 hy]
   exact⟨hrow x hx,(h.takes x hx).2⟩
 ·exact h.globs.at_ (fun g o h0 hA=>key g (h.glt ⟨nonempty_map h0,o,hA⟩) (fun e=>hv.2.1 (by rw[←e];exact⟨nonempty_map h0,o,hA⟩)) fun e=>(h.k1 x hx g e).2.1 ⟨nonempty_map h0,o,hA⟩) (by simp only[World.size_setCell];omega)
 ·rw[hvb] at hgv;injection hgv with hgv;subst hgv
  refine⟨hv.1,hv.2.1,fun y hy=> ?_⟩
  rcases List.mem_append.1 hy with hy|hy
  ·exact hv.2.2 y (hmem y hy)
  ·rw[List.mem_singleton.1 hy]
   exact⟨fun hk=>hg2n.2.2.1 (hKBn _ hk).symm,(hv.2.2 x hx).2⟩
 ·have htb:∀(g:Nat),(∀z∈ys++ [x],¬TB z g)→∀z∈ys++ [(({x.1 with code:=x.1.code++ [ci]},⟨x.2.ta,x.2.tc,some ⟨g2,0,none⟩,cap2⟩):Cf×Fv)],¬TB z g:=fun g hz z hm=>by
   rcases List.mem_append.1 hm with hm|hm
   ·exact hz z (hmem z hm)
   ·rw[List.mem_singleton.1 hm];exact hz x hx
  rcases List.mem_append.1 hy with hy|hy
  ·obtain⟨a1,a2,a3⟩:=h.k1 y (hmem y hy) g hk
   exact⟨a1,a2,htb g a3⟩
  ·rw[List.mem_singleton.1 hy] at hk
   obtain rfl:=hKBn g hk
   exact⟨hg2n.1,hg2n.2.1,htb _ hg2n.2.2.2.1⟩
 ·rw[List.pairwise_append]
  refine⟨(List.pairwise_append.1 h.k2).1,by simp,fun y hy z hz g hky hkz=> ?_⟩
  rw[List.mem_singleton.1 hz] at hkz
  obtain rfl:=hKBn g hkz
  exact hg2n.2.2.2.2 y hy hky
 ·rcases List.mem_append.1 hy with hy|hy
  ·exact h.t1 y (hmem y hy) g ht
  ·rw[List.mem_singleton.1 hy] at ht
   exact h.t1 x hx g ht
theorem RdG.pushF {x:Cf×Fv} {N:Nat} (h:RdG lo W0 W pb vf ga m gc xs gs) (hcode:x.1.code=[]∧x.2.ca=none∧x.2.cc=0) (htk:RowIs W W.heap.size x.2.ta (x.1.taken.map (Value.int .i64))∧x.1.taken.length≤x.2.tc) (hN:∀a,x.2.ta=some a→N≤a.block) (hNlo:lo≤N)
  (hNp:pb<N) (hNv:∀g,vf.ownBlock=some g→g<N) (hNk:∀y∈xs,∀g,KB y g→g<N)
  (ho:W2.ownsRow lo 33 6 (.slice (some ⟨g2,0,none⟩) (xs.length+1) cap2) (xs.length+1) (xs.flatMap fnCells++fnCells x)) (hg:(W.alloc o).grownBy W2 vf.ownBlock) (hb:vf.ownBlock=some g2∨g2=(W.alloc o).heap.size):
  W2.heap[pb]? =some (.cells #[vf,.slice ga m gc] 27 (0,0))∧
  RdG lo W0 (W2.setCell ⟨pb,0,none⟩ (.slice (some ⟨g2,0,none⟩) (xs.length+1) cap2)) pb (.slice (some ⟨g2,0,none⟩) (xs.length+1) cap2) ga m gc (xs++ [x]) gs:=by
 have hpl:=h.plt
 have hsz:(W.alloc o).heap.size=W.heap.size+1:=World.size_alloc _ _
 have hgs:=hg.size
 have hbox:W2.heap[pb]? =some (.cells #[vf,.slice ga m gc] 27 (0,0)):=(grown_keep hg hpl fun e=>(h.v1 _ e).1 rfl).trans h.box
 have hset:∀k,k≠pb→(W2.setCell ⟨pb,0,none⟩ (.slice (some ⟨g2,0,none⟩) (xs.length+1) cap2)).heap[k]? =W2.heap[k]? :=fun k hk=>Below.heap_setCell W2 _ _ _ hk
 have key:∀k,k<W.heap.size→k≠pb→vf.ownBlock≠some k→(W2.setCell ⟨pb,0,none⟩ (.slice (some ⟨g2,0,none⟩) (xs.length+1) cap2)).heap[k]? =W.heap[k]? :=fun k h1 h2 h3=>(hset k h2).trans (grown_keep hg h1 h3)
 have hxt:∀g,TB x g→N≤g∧g<W.heap.size:=fun g ⟨h0,q,hq⟩=>⟨hN _ hq,by
  rcases htk.1 with e|⟨g',o',hA,hl,_⟩
  ·exact absurd (by simpa using e) h0
  ·rw[hq] at hA;injection hA with hA;injection hA with hA _ _;omega⟩
 have hxk:∀g,¬KB x g:=fun g hk=>by
  have:(Value.slice x.2.ca x.1.code.length x.2.cc).ownBlock=some g:=hk
  rw[hcode.2.1] at this
  simp[Value.ownBlock] at this
 have hg2n:g2≠pb∧¬GB ga gs g2∧(∀y∈xs,¬KB y g2∧¬TB y g2)∧¬TB x g2:=by
  rcases hb with e|e
  ·obtain⟨a1,a2,a3⟩:=h.v1 g2 e
   exact⟨a1,a2,a3,fun ht=>by have:=(hxt g2 ht).1;have:=hNv g2 e;omega⟩
  ·rw[hsz] at e
   exact⟨by omega,fun hgb=>by have:=h.glt hgb;omega,fun y hy=>⟨fun hk=>by have:=((h.codes y hy).lt g2 hk).2;omega,fun ht=>by have:=h.tlt hy ht;omega⟩,fun ht=>by have:=(hxt g2 ht).2;omega⟩
 have hbW2:Below lo W0 W2:=(h.low.alloc h.lo_le o).trans ⟨hg.os,hg.tape,hg.output,hg.size,fun k hk=>hg.block k (by have:=h.lo_le;omega) (fun e=>by have:=(h.fns.lt k e.symm).1;omega)⟩
 refine⟨hbox,hbW2.setCell h.lp _,heap_setCell_same _ _ 0 _ _ _ hbox,h.lp, ?_,fun y hy=> ?_,fun y hy=> ?_,h.gn,h.gcap, ?_,fun g hgv=> ?_,fun y hy g hk=> ?_, ?_,fun y hy g ht=> ?_,h.g1⟩
 ·rw[List.length_append,List.flatMap_append]
  simp only[List.flatMap_cons,List.flatMap_nil,List.append_nil]
  refine own_keep ho fun g hgo=>hset g ?_
  simp only[Value.ownBlock,Option.some.injEq] at hgo
  rw[←hgo];exact hg2n.1
 ·rcases List.mem_append.1 hy with hy|hy
  ·exact own_keep (h.codes y hy) fun g hgk=>key g ((h.codes y hy).lt g hgk).2 (h.k1 y hy g hgk).1 fun e=>((h.v1 g e).2.2 y hy).1 hgk
  ·rw[List.mem_singleton.1 hy]
   obtain⟨e1,e2,e3⟩:=hcode
   show(W2.setCell _ _).ownsRow lo _ 5 (.slice x.2.ca x.1.code.length x.2.cc) x.1.code.length (x.1.code.flatMap insCells)
   rw[e1,e2,e3]
   exact World.ownsRow_nil _ _ _ _
 ·rcases List.mem_append.1 hy with hy|hy
  ·exact⟨(h.takes y hy).1.at_ (fun g o h0 hA=>key g (h.tlt hy ⟨nonempty_map h0,o,hA⟩) (h.t1 y hy g ⟨nonempty_map h0,o,hA⟩).1 fun e=>((h.v1 g e).2.2 y hy).2 ⟨nonempty_map h0,o,hA⟩) (by simp only[World.size_setCell];omega),(h.takes y hy).2⟩
  ·rw[List.mem_singleton.1 hy]
   exact⟨htk.1.at_ (fun g o h0 hA=>key g (hxt g ⟨nonempty_map h0,o,hA⟩).2 (by have:=(hxt g ⟨nonempty_map h0,o,hA⟩).1;omega) fun e=>by have:=(hxt g ⟨nonempty_map h0,o,hA⟩).1;have:=hNv g e;omega) (by simp only[World.size_setCell];omega),htk.2⟩
 ·exact h.globs.at_ (fun g o h0 hA=>key g (h.glt ⟨nonempty_map h0,o,hA⟩) (h.g1 g ⟨nonempty_map h0,o,hA⟩).1 fun e=>(h.v1 g e).2.1 ⟨nonempty_map h0,o,hA⟩) (by simp only[World.size_setCell];omega)
 ·simp only[Value.ownBlock,Option.some.injEq] at hgv
  subst hgv
  refine⟨hg2n.1,hg2n.2.1,fun y hy=> ?_⟩
  rcases List.mem_append.1 hy with hy|hy
  ·exact hg2n.2.2.1 y hy
  ·rw[List.mem_singleton.1 hy];exact⟨hxk _,hg2n.2.2.2⟩
 ·rcases List.mem_append.1 hy with hy|hy
  ·obtain⟨a1,a2,a3⟩:=h.k1 y hy g hk
   refine⟨a1,a2,fun z hz=> ?_⟩
   rcases List.mem_append.1 hz with hz|hz
   ·exact a3 z hz
   ·rw[List.mem_singleton.1 hz]
    exact fun ht=>by have:=(hxt g ht).1;have:=hNk y hy g hk;omega
  ·rw[List.mem_singleton.1 hy] at hk
   exact absurd hk (hxk g)
 ·rw[List.pairwise_append]
  refine⟨h.k2,by simp,fun y hy z hz g hky hkz=> ?_⟩
  rw[List.mem_singleton.1 hz] at hkz
  exact hxk g hkz
 ·rcases List.mem_append.1 hy with hy|hy
  ·exact h.t1 y hy g ht
  ·rw[List.mem_singleton.1 hy] at ht
   have:=(hxt g ht).1
   exact⟨by omega,by omega⟩
end
end Go.Proofs.YtagnicbknbmccaaGreatDoor
