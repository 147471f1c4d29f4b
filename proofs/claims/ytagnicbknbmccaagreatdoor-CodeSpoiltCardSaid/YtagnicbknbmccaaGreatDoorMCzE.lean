/- code.headed of any function of a program. code.headed of any function of any program. (*strings.Builder).WriteString as this cut has it. -/
import Derived.Lib.Builder
import Derived.Test.YtagnicbknbmccaaGreatDoorMCzK
import Derived.Test.YtagnicbknbmccaaGreatDoorMCwG
import Derived.Test.YtagnicbknbmccaaGreatDoorSqC
import Derived.Test.YtagnicbknbmccaaGreatDoorMCwV
set_option maxRecDepth 100000
set_option maxHeartbeats 4000000
namespace Go.Proofs.YtagnicbknbmccaaGreatDoor
open Go.RowKit
structure HeadAt (w:World) (g q i n:Nat) (nm:ByteArray) (pa sl ar:Int) (ta:Option Addr) (t tc:Nat) (ca:Option Addr) (cn cc:Nat):Prop where
 lt:g<w.heap.size
 le:i<n
 x0:w.cell? ⟨g,q+i*6,none⟩=some (.string nm)
 x1:w.cell? ⟨g,q+i*6+1,none⟩=some (.int .i64 pa)
 x2:w.cell? ⟨g,q+i*6+2,none⟩=some (.int .i64 sl)
 x3:w.cell? ⟨g,q+i*6+3,none⟩=some (.slice ta t tc)
 x4:w.cell? ⟨g,q+i*6+4,none⟩=some (.int .i64 ar)
 x5:w.cell? ⟨g,q+i*6+5,none⟩=some (.slice ca cn cc)
theorem three_cell (w:World) (o1 o2:Obj) (a:Array Value) (t:TypeId) (j:Nat) (v:Value) (h:a[j]? =some v):(((w.alloc o1).alloc o2).alloc (.cells a t (0,0))).cell? ⟨w.heap.size+2,j,none⟩=some v:=by
 have e:((w.alloc o1).alloc o2).heap.size=w.heap.size+2:=by simp
 rw[←e,cell_of_row _ _ j _ _ _ (heap_alloc_new _ _)]
 exact h
theorem headed_bad {w:World} {g q i n m fc gc t tc cn cc:Nat} {nm:ByteArray} {pa sl ar:Int} {ga ta ca:Option Addr} (hA:HeadAt w g q i n nm pa sl ar ta t tc ca cn cc) (_hn:n≤140737488351232) (_ht:t≤140737488351232) (mv:Value) (h1:pa<0∨13<pa∨sl<pa):
  Calls Tryz.prog 36 #[.agg #[.slice (some ⟨g,q,none⟩) n fc,.slice ga m gc],.int .i64 i,mv] w fun e w'=>e= .returned (.bool false)∧Below w.heap.size w w':=by
 have hg:=hA.lt
 have hlt:=hA.le
 have x0:=hA.x0
 have x1:=hA.x1
 have x2:=hA.x2
 have x3:=hA.x3
 have x4:=hA.x4
 have x5:=hA.x5
 clear hA
 go_enter Tryz.func36,Tryz.ntmps36
 rcases h1 with h1|h1|h1
 all_goals
  go_wp2_with fail
  all_goals
   go_ret
   exact⟨rfl,((Below.refl _ _).alloc (Nat.le_refl _) _).alloc (by simp) _⟩
theorem headed_zero {w:World} {g q i n m fc gc t tc cn cc:Nat} {nm:ByteArray} {pa sl ar:Int} {ga ta ca:Option Addr} (hA:HeadAt w g q i n nm pa sl ar ta t tc ca cn cc) (_hn:n≤140737488351232) (_ht:t≤140737488351232) (h1:¬(pa<0∨13<pa∨sl<pa)) (mv:Value) (hi:i=0):
  Calls Tryz.prog 36 #[.agg #[.slice (some ⟨g,q,none⟩) n fc,.slice ga m gc],.int .i64 i,mv] w fun e w'=>e= .returned (.bool (nm.data.toList==[]&&(pa==0&&(((t:Int)==0)&&ar== -1))))∧Below w.heap.size w w':=by
 subst hi
 have hg:=hA.lt
 have hlt:=hA.le
 have x0:=hA.x0
 have x1:=hA.x1
 have x2:=hA.x2
 have x3:=hA.x3
 have x4:=hA.x4
 have x5:=hA.x5
 obtain⟨a1,a2⟩:=not_or.1 h1
 obtain⟨a3,a4⟩:=not_or.1 a2
 have d1:decide (pa<0)=false:=decide_eq_false a1
 have d2:decide (13<pa)=false:=decide_eq_false a3
 have d3:decide (sl<pa)=false:=decide_eq_false a4
 clear hA h1 a1 a2 a3 a4
 have hne:nm.toList.isEmpty=(nm.data.toList==[]):=by rw[ByteArray.toList_eq];cases nm.data.toList<;>rfl
 simp only[Nat.zero_mul,Nat.add_zero] at x0 x1 x2 x3 x4 x5
 go_enter Tryz.func36,Tryz.ntmps36
 cases e1:(nm.data.toList==[])<;>cases e2:(pa==0)<;>cases e3:((t:Int)==0)<;>cases e4:(ar== -1)
 all_goals
  rw[e1] at hne
  go_wp2_with fail
  all_goals
   go_ret
   refine⟨ret_bool (by first|rfl|simp_all), ?_⟩
   exact((Below.refl _ _).alloc (Nat.le_refl _) _).alloc (by simp) _
theorem headed_decl {w:World} {g q i n m fc gc t tc cn cc:Nat} {nm:ByteArray} {pa sl ar:Int} {ga ta ca:Option Addr} (hA:HeadAt w g q i n nm pa sl ar ta t tc ca cn cc) (_hn:n≤140737488351232) (_ht:t≤140737488351232) (h1:¬(pa<0∨13<pa∨sl<pa)) (hi:i≠0) (hr:ar= -1) (hG:Gc w) {b k:Nat} (h13:13≤b) {old:List (List UInt8)} (hc:CntAt w b k old) (hk:k≤100000000000000) (ho:old.length≤100000000000000) (hs:nm.size≤4000000000):
  Calls Tryz.prog 36 #[.agg #[.slice (some ⟨g,q,none⟩) n fc,.slice ga m gc],.int .i64 i,.map (some b)] w fun e w'=>e= .returned (.bool (((t:Int)==0)&&(declaredB nm.data.toList&& !old.contains nm.data.toList)))∧(w.grownBy w' (some b))∧CntAt w' b (k+1) (nm.data.toList::old):=by
 subst hr
 have hg:=hA.lt
 have hlt:=hA.le
 have x0:=hA.x0
 have x1:=hA.x1
 have x2:=hA.x2
 have x3:=hA.x3
 have x4:=hA.x4
 have x5:=hA.x5
 obtain⟨a1,a2⟩:=not_or.1 h1
 obtain⟨a3,a4⟩:=not_or.1 a2
 have d1:decide (pa<0)=false:=decide_eq_false a1
 have d2:decide (13<pa)=false:=decide_eq_false a3
 have d3:decide (sl<pa)=false:=decide_eq_false a4
 clear hA h1 a1 a2 a3 a4
 have hi0:((i:Int)==0)=false:=by simp;omega
 obtain⟨W2,HW2⟩:∃W2,Hid (W2=(w.alloc (.cells #[.slice (some ⟨g,q,none⟩) n fc,.slice ga m gc] 27 (0,0))).alloc (.cells #[.string nm,.int .i64 pa,.int .i64 sl,.slice ta t tc,.int .i64 (-1),.slice ca cn cc] 33 (0,0))):=⟨_,rfl⟩
 have hB2:Below w.heap.size w W2:=by rw[HW2.out];exact((Below.refl _ _).alloc (Nat.le_refl _) _).alloc (by simp) _
 have hC2:=hc.keep hB2
 obtain⟨c,hcc⟩:∃c:Nat,old.count nm.data.toList=c:=⟨_,rfl⟩
 have hcl:c≤old.length:=by rw[←hcc];exact List.count_le_length
 have hk1:=hC2.look nm (by omega)
 obtain⟨w3,hu,hC3,hg3⟩:=hC2.put nm (by omega) (by omega) (by omega)
 have hbw:b<w.heap.size:=by obtain⟨D,h1,_⟩:=hc;exact h1.lt
 rw[hcc] at hk1 hu
 have hcells:∀j v,(#[.string nm,.int .i64 pa,.int .i64 sl,.slice ta t tc,.int .i64 (-1),.slice ca cn cc]:Array Value)[j]? =some v→w3.cell? ⟨w.heap.size+1,j,none⟩=some v:=fun j v hj=>by
  rw[World.cell?_of_block (a:=⟨w.heap.size+1,j,none⟩) (hg3.block (w.heap.size+1) (by rw[HW2.out];simp) (by intro e;injection e with e;omega)),HW2.out]
  rw[cell_of_row _ (w.heap.size+1) j _ _ _ (by have:=heap_alloc_new (w.alloc (.cells #[.slice (some ⟨g,q,none⟩) n fc,.slice ga m gc] 27 (0,0))) (.cells #[.string nm,.int .i64 pa,.int .i64 sl,.slice ta t tc,.int .i64 (-1),.slice ca cn cc] 33 (0,0));simpa using this)]
  exact hj
 have z0:=hcells 0 _ rfl
 have z3:=hcells 3 _ rfl
 have hs3:w.heap.size+1<w3.heap.size:=World.block_lt_of_cell? w3 ⟨w.heap.size+1,0,none⟩ z0
 have hgb:w.grownBy w3 (some b):=⟨hg3.os.trans hB2.os,hg3.tape.trans hB2.tape,hg3.output.trans hB2.output,Nat.le_trans hB2.size hg3.size,fun j hj hjb=>(hg3.block j (Nat.lt_of_lt_of_le hj hB2.size) hjb).trans (hB2.block j hj)⟩
 have HGB:=Lib.hid hgb
 have HC3:=Lib.hid hC3
 have HG3:Hid (Gc w3):=Lib.hid (hG.below (B:=13) (Nat.le_refl 13) ⟨hgb.os,hgb.tape,hgb.output,hgb.size,fun j hj=>hgb.block j (Nat.lt_of_lt_of_le hj hG.size) (by intro e;injection e with e;omega)⟩)
 have HK4:Hid (∀w4,Below w3.heap.size w3 w4→(Instr.lookup 71 (.map (some b)) (.string nm) false).run Tryz.prog w4= .ok (.int .i64 ((c:Int)+1)) w4):=Lib.hid fun w4 hb4=>by
  have:=(HC3.out.keep hb4).look nm (by omega)
  rw[List.count_cons_self,hcc] at this
  exact this
 have HFIN:Hid (∀w4,Below w3.heap.size w3 w4→w.grownBy w4 (some b)∧CntAt w4 b (k+1) (nm.data.toList::old)):=Lib.hid fun w4 hb4=>
  ⟨⟨hb4.os.trans HGB.out.os,hb4.tape.trans HGB.out.tape,hb4.output.trans HGB.out.output,Nat.le_trans HGB.out.size hb4.size,fun j hj hjb=>(hb4.block j (Nat.lt_of_lt_of_le hj HGB.out.size)).trans (HGB.out.block j hj hjb)⟩,HC3.out.keep hb4⟩
 have HD:Hid (∀W,Gc W→Calls Tryz.prog 78 #[.string nm] W fun e w'=>e= .returned (.bool (declaredB nm.data.toList))∧Below W.heap.size W w'):=Lib.hid fun W hW=>declared_any nm.data.toList W hW (by show nm.size≤_;omega)
 have HCC:=Lib.hid hcc
 have hW2:=HW2.out
 subst hW2
 clear hc hC2 hC3 hg3 hgb hB2 hcells hcc HW2 hG
 go_enter Tryz.func36,Tryz.ntmps36
 cases e3:((t:Int)==0) with
 |false=>
  go_wp2_with fail
  go_ret
  exact⟨ret_bool (by first|rfl|simp_all),HFIN.out _ (Below.refl _ _)⟩
 |true=>
  cases e4:declaredB nm.data.toList with
  |false=>
   go_wp2_with (go_at_call 78;refine(HD.out _ HG3.out).mono ?_;rw[e4];rintro e w4 ⟨rfl,hb4⟩)
   go_ret
   exact⟨ret_bool (by first|rfl|simp_all),HFIN.out _ hb4⟩
  |true=>
   by_cases hc0:c=0
   ·subst hc0
    rw[show((0:Nat):Int)+1=1 from rfl] at hu
    rw[show((0:Nat):Int)=0 from rfl] at hk1
    have hnc:=count_zero_not HCC.out
    go_wp2_with (go_at_call 78;refine(HD.out _ HG3.out).mono ?_;rw[e4];rintro e w4 ⟨rfl,hb4⟩;have hk4:=HK4.out w4 hb4;have z0':=(hb4.cell (p:=⟨w.heap.size+1,0,none⟩) hs3).trans z0)
    go_ret
    exact⟨ret_bool (by rw[hnc];first|rfl|simp_all),HFIN.out _ hb4⟩
   ·have hnc:=count_pos_in (by rw[HCC.out];exact hc0)
    have hc1:((c:Int)+1==1)=false:=by simp;omega
    go_wp2_with (go_at_call 78;refine(HD.out _ HG3.out).mono ?_;rw[e4];rintro e w4 ⟨rfl,hb4⟩;have hk4:=HK4.out w4 hb4;have z0':=(hb4.cell (p:=⟨w.heap.size+1,0,none⟩) hs3).trans z0)
    go_ret
    exact⟨ret_bool (by rw[hnc];first|rfl|simp_all),HFIN.out _ hb4⟩
theorem headed_odd {w:World} {g q i n m fc gc t tc cn cc:Nat} {nm:ByteArray} {pa sl ar:Int} {ga ta ca:Option Addr} (hA:HeadAt w g q i n nm pa sl ar ta t tc ca cn cc) (hn:n≤140737488351232) (_ht:t≤140737488351232) (h1:¬(pa<0∨13<pa∨sl<pa)) (mv:Value) (hi:i≠0) (hr:ar≠-1) (hw:nm.data.toList≠ [102,117,110,99]∨ar<0∨(i:Int)≤ar):
  Calls Tryz.prog 36 #[.agg #[.slice (some ⟨g,q,none⟩) n fc,.slice ga m gc],.int .i64 i,mv] w fun e w'=>e= .returned (.bool false)∧Below w.heap.size w w':=by
 have hg:=hA.lt
 have hlt:=hA.le
 have x0:=hA.x0
 have x1:=hA.x1
 have x2:=hA.x2
 have x3:=hA.x3
 have x4:=hA.x4
 have x5:=hA.x5
 obtain⟨a1,a2⟩:=not_or.1 h1
 obtain⟨a3,a4⟩:=not_or.1 a2
 have d1:decide (pa<0)=false:=decide_eq_false a1
 have d2:decide (13<pa)=false:=decide_eq_false a3
 have d3:decide (sl<pa)=false:=decide_eq_false a4
 clear hA h1 a1 a2 a3 a4
 have hi0:((i:Int)==0)=false:=by simp;omega
 have hr0:(ar== -1)=false:=by simpa using hr
 have hne:(nm.toList==[102,117,110,99])=(nm.data.toList==[102,117,110,99]):=by rw[ByteArray.toList_eq]
 have HW:=Lib.hid hw
 clear hw hi hr
 go_enter Tryz.func36,Tryz.ntmps36
 cases e1:(nm.data.toList==[102,117,110,99])
 ·rw[e1] at hne
  go_wp2_with fail
  go_ret
  exact⟨rfl,((Below.refl _ _).alloc (Nat.le_refl _) _).alloc (by simp) _⟩
 ·rw[e1] at hne
  rcases HW.out with h|h|h
  ·exact absurd (by simpa using e1) h
  all_goals
   go_wp2_with fail
   all_goals
    go_ret
    exact⟨rfl,((Below.refl _ _).alloc (Nat.le_refl _) _).alloc (by simp) _⟩
theorem headed_inner {w:World} {g q i n m fc gc t tc cn cc:Nat} {nm:ByteArray} {pa sl ar:Int} {ga ta ca:Option Addr} (hA:HeadAt w g q i n nm pa sl ar ta t tc ca cn cc) (_hn:n≤140737488351232) (ht:t≤140737488351232) (h1:¬(pa<0∨13<pa∨sl<pa)) (mv:Value) (hi:i≠0) (hr:ar≠-1) (hw:nm.data.toList=[102,117,110,99]) {j:Nat} (hj:ar=(j:Int)) (hji:j<i)
  {nm2:ByteArray} {pa2 sl2 ar2:Int} {ta2 ca2:Option Addr} {t2 tc2 cn2 cc2:Nat} (hA2:HeadAt w g q j n nm2 pa2 sl2 ar2 ta2 t2 tc2 ca2 cn2 cc2) (ht2:t2≤140737488351232) {l:List Int} (hl:l.length=t) (hrow:RowIs w w.heap.size ta (l.map (Value.int .i64))):
  Calls Tryz.prog 36 #[.agg #[.slice (some ⟨g,q,none⟩) n fc,.slice ga m gc],.int .i64 i,mv] w fun e w'=>e= .returned (.bool (!l.any (outB sl2 t2)))∧Below w.heap.size w w':=by
 have hg:=hA.lt
 have hlt:=hA.le
 have x0:=hA.x0
 have x1:=hA.x1
 have x2:=hA.x2
 have x3:=hA.x3
 have x4:=hA.x4
 have x5:=hA.x5
 obtain⟨a1,a2⟩:=not_or.1 h1
 obtain⟨a3,a4⟩:=not_or.1 a2
 have d1:decide (pa<0)=false:=decide_eq_false a1
 have d2:decide (13<pa)=false:=decide_eq_false a3
 have d3:decide (sl<pa)=false:=decide_eq_false a4
 clear hA h1 a1 a2 a3 a4
 have hi0:((i:Int)==0)=false:=by simp;omega
 have hr0:(ar== -1)=false:=by simpa using hr
 have hr1:decide (ar<0)=false:=by simp;omega
 have hr2:decide ((i:Int)≤ar)=false:=by simp;omega
 have hne:(nm.toList==[102,117,110,99])=true:=by rw[ByteArray.toList_eq,hw];rfl
 subst hj
 have y0:=hA2.x0
 have y1:=hA2.x1
 have y2:=hA2.x2
 have y3:=hA2.x3
 have y4:=hA2.x4
 have y5:=hA2.x5
 have hjn:=hA2.le
 have HC:Hid (∀W,Below w.heap.size w W→∀b,W.cell? ⟨b,2,none⟩=some (.int .i64 sl2)→W.cell? ⟨b,3,none⟩=some (.slice ta2 t2 tc2)→Calls Tryz.prog 79 #[.slice ta t tc,.func (.func 80) #[] #[.pointer (some ⟨b,0,none⟩)]] W fun e w'=>e= .returned (.bool (l.any (outB sl2 t2)))∧w'=W):=
  Lib.hid fun W hW b h2 h3=>hl▸containsTaken_any (c:=tc) h2 h3 ht2 ((hrow.keep hW.block).more hW.size) (by omega)
 have hmf:∀(fn:Fn) (first cap:Array Value) (w:World),(Instr.makeFunc fn first cap).run Tryz.prog w= .ok (.func fn first cap) w:=fun _ _ _ _=>rfl
 have HB3:Hid (∀o1 o2 o3,Below w.heap.size w (((w.alloc o1).alloc o2).alloc o3)):=Lib.hid fun o1 o2 o3=>(((Below.refl _ _).alloc (Nat.le_refl _) _).alloc (by simp) _).alloc (by simp;omega) _
 clear hA2 hrow hl hw
 go_enter Tryz.func36,Tryz.ntmps36
 go_wp2_with (go_at_call 79;refine(HC.out _ (HB3.out _ _ _) (w.heap.size+2) ?_ ?_).mono ?_;rotate_left 2;rintro e w4 ⟨rfl,rfl⟩)
 ·go_ret
  exact⟨rfl,HB3.out _ _ _⟩
 ·exact three_cell _ _ _ _ _ _ _ rfl
 ·exact three_cell _ _ _ _ _ _ _ rfl
theorem headAt_of {w0 w:World} {p:Cp} {n m i:Nat} {fa ga:Option Addr} {xs:List (Cf×Fv)} (hp:PgAt w0 p n m fa ga xs) (hb0:Below w0.heap.size w0 w) {f:Cf} (hf:p.funcs[i]? =some f):
  ∃g q fv,fa=some ⟨g,q,none⟩∧LiesF w0 w0.heap.size (f,fv)∧HeadAt w g q i n f.name f.params f.slots f.around fv.ta f.taken.length fv.tc fv.ca f.code.length fv.cc:=by
 obtain⟨g,q,fv,e,hl,x0,x1,x2,x3,x4,x5⟩:=hp.func hf
 have hg:g<w0.heap.size:=World.block_lt_of_cell? w0 ⟨g,q+i*6,none⟩ x0
 have hc:∀o v,w0.cell? ⟨g,o,none⟩=some v→w.cell? ⟨g,o,none⟩=some v:=fun o v h=>(hb0.cell (p:=⟨g,o,none⟩) hg).trans h
 have hi:i<p.funcs.length:=(List.getElem?_eq_some_iff.1 hf).1
 exact⟨g,q,fv,e,hl,Nat.lt_of_lt_of_le hg hb0.size,by rw[←hp.fn];exact hi,hc _ _ x0,hc _ _ x1,hc _ _ x2,hc _ _ x3,hc _ _ x4,hc _ _ x5⟩
def nextOld (i:Nat) (f:Cf) (old:List (List UInt8)):List (List UInt8):=if i≠0∧f.around= -1 then f.name.data.toList::old else old
theorem CntAt.more {w:World} {b k k':Nat} {l:List (List UInt8)} (h:CntAt w b k l) (hk:k≤k'):CntAt w b k' l:=by
 obtain⟨D,h1,h2⟩:=h
 exact⟨D,h1.mono hk,h2⟩
theorem any_out (sl:Int) (n:Nat):∀l:List Int,(!l.any (outB sl n))=l.all fun t=>decide (t<sl)&&decide (-(n:Int)≤t)
 | []=>rfl
 |t::r=>by
  have h:(decide (t<sl)&&decide (-(n:Int)≤t))= !outB sl n t:=by
   unfold outB
   rw[Bool.eq_iff_iff]
   simp
  rw[List.any_cons,List.all_cons,←any_out sl n r,h]
  cases outB sl n t<;>rfl
def HeadPost (w0 w:World) (b k:Nat) (R:Bool) (new:List (List UInt8)) (e:Ending) (w':World):Prop:=
 e= .returned (.bool R)∧Below w0.heap.size w0 w'∧(R=true→CntAt w' b (k+1) new)∧∀j,j<w.heap.size→j≠b→w'.heap[j]? =w.heap[j]?
theorem headed_any {w0 w:World} {p:Cp} {n m fc gc i b k:Nat} {fa ga:Option Addr} {xs:List (Cf×Fv)} {old:List (List UInt8)} {f:Cf} (hp:PgAt w0 p n m fa ga xs) (hok:CpOk p) (hs:f.name.size≤4000000000) (hb0:Below w0.heap.size w0 w)
  (hG:Gc w) (h13:13≤w0.heap.size) (hbb:w0.heap.size≤b) (hc:CntAt w b k old) (hk:k≤100000000000000) (ho:old.length≤100000000000000) (hf:p.funcs[i]? =some f):
  Calls Tryz.prog 36 #[.agg #[.slice fa n fc,.slice ga m gc],.int .i64 i,.map (some b)] w (HeadPost w0 w b k (headedB p.funcs i f old) (nextOld i f old)):=by
 obtain⟨g,q,fv,rfl,hl,hA⟩:=headAt_of hp hb0 hf
 have hn:n≤140737488351232:=hp.fn▸hok.1
 have hfo:=hok.2.2.1 f (List.mem_of_getElem? hf)
 have ht:f.taken.length≤140737488351232:=hfo.2.2.2.2.1
 have up:∀w',Below w.heap.size w w'→Below w0.heap.size w0 w':=fun w' h=>hb0.trans (h.mono hb0.size)
 have tl:((f.taken.length:Int)==0)=(f.taken.length==0):=by rw[Bool.eq_iff_iff];simp
 unfold headedB
 by_cases h1:f.params<0∨13<f.params∨f.slots<f.params
 ·rw[if_pos h1]
  refine(headed_bad hA hn ht _ h1).mono ?_
  rintro e w' ⟨rfl,hb⟩
  exact⟨rfl,up _ hb,(fun h=>by cases h),fun j hj _=>hb.block j hj⟩
 ·rw[if_neg h1]
  by_cases hi:i=0
  ·rw[if_pos hi]
   refine(headed_zero hA hn ht h1 _ hi).mono ?_
   rintro e w' ⟨rfl,hb⟩
   rw[tl]
   refine⟨rfl,up _ hb,fun _=> ?_,fun j hj _=>hb.block j hj⟩
   rw[nextOld,if_neg (by simp[hi])]
   exact(hc.keep hb).more (Nat.le_succ _)
  ·rw[if_neg hi]
   by_cases hr:f.around= -1
   ·rw[if_pos hr]
    refine(headed_decl hA hn ht h1 hi hr hG (Nat.le_trans h13 hbb) hc hk ho hs).mono ?_
    rintro e w' ⟨rfl,hg,hc'⟩
    rw[tl]
    refine⟨rfl,⟨hg.os.trans hb0.os,hg.tape.trans hb0.tape,hg.output.trans hb0.output,Nat.le_trans hb0.size hg.size,fun j hj=>(hg.block j (Nat.lt_of_lt_of_le hj hb0.size) (by intro e;injection e with e;omega)).trans (hb0.block j hj)⟩,fun _=> ?_,fun j hj hne=>hg.block j hj (by intro e;injection e with e;exact hne e)⟩
    rw[nextOld,if_pos ⟨hi,hr⟩]
    exact hc'
   ·rw[if_neg hr]
    have hno:nextOld i f old=old:=by rw[nextOld,if_neg (by simp[hr])]
    rw[hno]
    by_cases hw:f.name.data.toList≠ [102,117,110,99]∨f.around<0∨(i:Int)≤f.around
    ·rw[if_pos hw]
     refine(headed_odd hA hn ht h1 _ hi hr hw).mono ?_
     rintro e w' ⟨rfl,hb⟩
     exact⟨rfl,up _ hb,(fun h=>by cases h),fun j hj _=>hb.block j hj⟩
    ·rw[if_neg hw]
     obtain⟨w1,w2⟩:=not_or.1 hw
     obtain⟨w3,w4⟩:=not_or.1 w2
     obtain⟨j,hj⟩:∃j:Nat,f.around=(j:Int):=⟨f.around.toNat,by omega⟩
     have hji:j<i:=by omega
     have hin:=hA.le
     obtain⟨f2,hf2⟩:∃f2,p.funcs[j]? =some f2:=⟨_,List.getElem?_eq_getElem (by rw[hp.fn];omega)⟩
     obtain⟨g',q',fv2,e2,hl2,hA2⟩:=headAt_of hp hb0 hf2
     injection e2 with e2
     injection e2 with e2 e3
     subst e2 e3
     have ht2:f2.taken.length≤140737488351232:=(hok.2.2.1 f2 (List.mem_of_getElem? hf2)).2.2.2.2.1
     refine(headed_inner hA hn ht h1 _ hi hr (by simpa using w1) hj hji hA2 ht2 rfl ((hl.1.keep hb0.block).more hb0.size)).mono ?_
     rintro e w' ⟨rfl,hb⟩
     have hjj:f.around.toNat=j:=by omega
     rw[hjj,hf2]
     refine⟨?_,up _ hb,fun _=>(hc.keep hb).more (Nat.le_succ _),fun j hj _=>hb.block j hj⟩
     rw[any_out]
theorem bldInfo:(Tryz.prog.info? 80).map (·.size)=some 2:=by kernel_rfl
theorem bldLies:liesAt Tryz.prog Tryz.prog.depth 80 (2/Tryz.prog.cellsOf 80) 0 80 1=true:=by kernel_rfl
theorem own_keep' {W W':World} {lo:Nat} {e:TypeId} {s n:Nat} {v:Value} {xs:List Value} (h:W.ownsRow lo e s v n xs) (hk:∀g,v.ownBlock=some g→W'.heap[g]? =W.heap[g]?):W'.ownsRow lo e s v n xs:=by
 refine⟨h.1, ?_⟩
 rcases h.2 with h|⟨g,cap,cur,rfl,hlo,hg,h1,h2,h3,h4⟩
 ·exact .inl h
 ·exact .inr ⟨g,cap,cur,rfl,hlo,(hk g rfl).trans hg,h1,h2,h3,h4⟩
structure BdAt (w0 W:World) (b:Nat) (v:Value) (bs:List UInt8):Prop where
 box:∃p,(p= .pointer none∨p= .pointer (some ⟨b,0,none⟩))∧W.heap[b]? =some (.cells #[p,v] 80 (0,0))
 own:W.ownsRow w0.heap.size 5 1 v bs.length (Lib.byteCells bs)
 ne:v.ownBlock≠some b
 low:Below w0.heap.size w0 W
 lo:w0.heap.size≤b
def BxAt (W:World) (b:Nat) (v:Value) (k:Nat) (o:Obj):Prop:=W.heap[k]? =some o∧k≠b∧v.ownBlock≠some k
theorem copyCheck_any {w:World} {b:Nat} {p v:Value} (hp:p= .pointer none∨p= .pointer (some ⟨b,0,none⟩)) (hb:w.heap[b]? =some (.cells #[p,v] 80 (0,0))):
  Calls Tryz.prog 88 #[.pointer (some ⟨b,0,none⟩)] w fun e w'=>e= .returned (.tuple #[])∧w'.heap[b]? =some (.cells #[.pointer (some ⟨b,0,none⟩),v] 80 (0,0))∧Foot w.heap.size (fun k=>k=b) w w':=by
 have c0:=cell_of_row w b 0 _ _ _ hb
 have f0:=frozen_of_row w b 0 _ _ hb
 simp only[List.getElem?_toArray,List.getElem?_cons_zero] at c0
 have hsh:w.shape? b=some (80,2):=by unfold World.shape?;rw[hb];rfl
 obtain⟨j,hj,hjs⟩:=Option.map_eq_some_iff.1 bldInfo
 have HB:=Lib.hid hb
 clear hb
 rcases hp with rfl|rfl
 ·have k1:(convert 78 152 (.pointer (some ⟨b,0,none⟩))).run Tryz.prog w= .ok (.pointer (some ⟨b,0,none⟩)) w:=Lib.run_to_unsafe w ⟨b,0,none⟩ Tryz.underlying78 Tryz.underlying152 hj (by rw[hjs];decide) hsh (Nat.zero_lt_succ 1)
  have k3:(convert 152 78 (.pointer (some ⟨b,0,none⟩))).run Tryz.prog w= .ok (.pointer (some ⟨b,0,none⟩)) w:=Lib.run_from_unsafe w ⟨b,0,none⟩ Tryz.underlying152 Tryz.underlying78 hj hsh bldLies
  go_enter Tryz.func88,Tryz.ntmps88
  have k2:(callFunc 130 #[.pointer (some ⟨b,0,none⟩)]).run Tryz.prog w= .ok (.value (.pointer (some ⟨b,0,none⟩))) w:=by
   rw[run_callFunc_extern Tryz.func130 (by kernel_rfl) (by kernel_rfl) (by kernel_rfl) (e:=Extern.AbiNoEscape.same) (by kernel_rfl),Lib.run_noEscape]
   rfl
  go_wp2_with fail
  go_end0
  exact⟨rfl,heap_setCell_same _ _ 0 _ _ _ HB.out,Foot.set (g:=fun k=>k=b) (p:=⟨b,0,none⟩) (Foot.refl _ _ _) (.inr rfl) _⟩
 ·have k4:=Lib.run_neq_ptr_same (P:=Tryz.prog) w ⟨b,0,none⟩ Tryz.underlying78 hj
  go_enter Tryz.func88,Tryz.ntmps88
  go_wp2_with fail
  go_end0
  exact⟨rfl,HB.out,Foot.refl _ _ _⟩
theorem writeString_any {w0 w:World} {b:Nat} {v:Value} {bs:List UInt8} (h:BdAt w0 w b v bs) (s:ByteArray) (hlen:bs.length+s.size≤100000000):
  Calls Tryz.prog 41 #[.pointer (some ⟨b,0,none⟩),.string s] w fun e w'=>e= .returned (.tuple #[.int .i64 s.size,.nilIface])∧∃v',BdAt w0 w' b v' (bs++s.data.toList)∧∀k o,BxAt w b v k o→BxAt w' b v' k o:=by
 obtain⟨i0,hi,hz0,hz1,hz2⟩:=info_parts byteInfo
 obtain⟨p,hp,hb⟩:=h.box
 have hblt:b<w.heap.size:=(Array.getElem?_eq_some_iff.1 hb).1
 have HC:=Lib.hid (copyCheck_any hp hb)
 have H:=Lib.hid h
 have hsz:s.data.toList.length=s.size:=by rw[Array.length_toList];rfl
 have HSZ:=Lib.hid hsz
 clear hb hp h hsz
 go_enter Tryz.func41,Tryz.ntmps41
 go_wp2_with (first
  |(go_at_call 88;refine HC.out.mono ?_;rintro e w1 ⟨rfl,hb1,hf1⟩;have c1:=cell_of_row w1 b 1 _ _ _ hb1;simp only[gq] at c1;have HO1:=Lib.hid (own_keep' H.out.own (fun g hg=>hf1.block g (H.out.own.lt g hg).2 (fun e=>H.out.ne (by rw[hg,e]))));have HB1:=Lib.hid hb1;have hs1:=hf1.size;have hlow:=H.out.low.size;have HF1:=Lib.hid hf1;clear hb1 hf1)
  |(at_builtin;refine wpList_append_str _ rfl _ _ 75 9 rfl w0.heap.size 5 i0 Tryz.underlying75 Tryz.underlying9 hi hz0 hz1 hz2 v bs.length (Lib.byteCells bs) rfl HO1.out s rfl (by unfold maxLen;omega) (by omega) (by omega) ?_;intro v2 w2 ho2 hg2 hn2;obtain⟨A2,k2,rfl,_,_⟩:=row_form ho2;have hb2:=(hg2.block b (by omega) (fun e=>H.out.ne e.symm)).trans HB1.out;have d1:=cell_of_row w2 b 1 _ _ _ hb2;have f1:=frozen_of_row w2 b 1 _ _ hb2;simp only[gq] at d1))
 go_ret2
 have hset:∀k,k≠b→(w2.setCell ⟨b,1,none⟩ (.slice A2 (bs.length+s.size) k2)).heap[k]? =w2.heap[k]? :=fun k hk=>Below.heap_setCell w2 _ _ _ hk
 have hne2:∀g,(Value.slice A2 (bs.length+s.size) k2).ownBlock=some g→g≠b:=fun g hg e=>by
  rcases hn2 g hg with h|h
  ·exact H.out.ne (by rw[h,e])
  ·omega
 refine⟨rfl,.slice A2 (bs.length+s.size) k2,⟨⟨_,.inr rfl,heap_setCell_same _ _ 1 _ _ _ hb2⟩, ?_,fun e=>hne2 b e rfl, ?_,H.out.lo⟩,fun k o hx=> ?_⟩
 ·have e1:(bs++s.data.toList).length=bs.length+s.size:=by rw[List.length_append,HSZ.out]
  have e2:Lib.byteCells (bs++s.data.toList)=Lib.byteCells bs++Lib.strCells s:=by simp[Lib.byteCells,Lib.strCells]
  rw[e1,e2]
  exact own_keep' ho2 fun g hg=>hset g (hne2 g hg)
 ·have hf:=HF1.out
  refine⟨hg2.os.trans (hf.os.trans H.out.low.os),hg2.tape.trans (hf.tape.trans H.out.low.tape),hg2.output.trans (hf.output.trans H.out.low.output),by have:=hg2.size;rw[World.size_setCell];omega,fun k hk=> ?_⟩
  have hlo:=H.out.lo
  refine(hset k (by omega)).trans ((hg2.block k (by omega) (fun e=> ?_)).trans ((hf.block k (by omega) (by omega)).trans (H.out.low.block k hk)))
  have:=(H.out.own.lt k e.symm).1
  omega
 ·have hkl:=(Array.getElem?_eq_some_iff.1 hx.1).1
  refine⟨(hset k hx.2.1).trans ((hg2.block k (by omega) (fun e=>hx.2.2 e.symm)).trans ((HF1.out.block k hkl hx.2.1).trans hx.1)),hx.2.1,fun e=> ?_⟩
  rcases hn2 k e with h|h
  ·exact hx.2.2 h
  ·omega
end Go.Proofs.YtagnicbknbmccaaGreatDoor
