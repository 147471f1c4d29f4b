/- Whether two programs of code are one: instructions, guiseref13.ints, slices.Equal of instructions. Whether two programs of code are one: slices.Equal of instructions; guiseref13.Same. guiseref13.Same of any two programs. code.forms, code.goes. code.goes. -/
import Derived.BigQuiet
import Derived.Deep.DeepCutAuto
import Derived.Laws.StructEq
import Derived.Laws.Tables
import Derived.Test.YtagnicbknbmccaaGreatDoorMLex1
import Derived.Test.YtagnicbknbmccaaGreatDoorMCwF
import Derived.Test.YtagnicbknbmccaaGreatDoorCount
import Derived.Test.YtagnicbknbmccaaGreatDoorSqC
set_option maxRecDepth 100000
set_option maxHeartbeats 4000000
namespace Go.Proofs.YtagnicbknbmccaaGreatDoor
open Go.RowKit
theorem neq_inst (x y:Ci) (w:World):(binOp .neq 36 (.agg #[.int .i64 x.op,.int .i64 x.a,.int .i64 x.b,.string x.text,.int .i64 x.at_]) (.agg #[.int .i64 y.op,.int .i64 y.a,.int .i64 y.b,.string y.text,.int .i64 y.at_])).run Tryz.prog w= .ok (.bool (!sameI x y)) w:=by
 have hS:Tryz.prog.underlying 36=some (.struct (Tryz.prog.fieldsOf 36)):=by kernel_rfl
 have hp:Tryz.prog.stoodInHeld 36=false:=by kernel_rfl
 rw[run_neq_struct,show(10000:Nat)=9999+1 from rfl,run_equalIn_agg w 9999 _ _ _ hS hp]
 simp only[Program.fieldsOf,Tryz.underlying36]
 go_simp
 have ht:x.text.toList=y.text.toList ↔ x.text=y.text:=⟨toList_inj,congrArg _⟩
 unfold sameI
 by_cases h1:x.op=y.op<;>by_cases h2:x.a=y.a<;>by_cases h3:x.b=y.b<;>by_cases h4:x.text=y.text<;>by_cases h5:x.at_=y.at_<;>simp[ht,h1,h2,h3,h4,h5]
theorem int_cells {w:World} {A:Option Addr} {l:List Int} (h:RowIs w w.heap.size A (l.map (Value.int .i64))) {j:Nat} {x:Int} (hx:l[j]? =some x):
  ∃g o,A=some ⟨g,o,none⟩∧∀wr,Below w.heap.size w wr→∀n,(wr.drewN n).cell? ⟨g,o+j,none⟩=some (.int .i64 x):=by
 have hj:j<l.length:=(List.getElem?_eq_some_iff.1 hx).1
 obtain⟨g,o,rfl,hg,hc⟩:=h.at (by rw[List.length_map];omega)
 exact⟨g,o,rfl,fun wr hb n=>(World.cell?_of_block (w:=w) (a:=⟨g,o+j,none⟩) (hb.block g hg)).trans (hc j _ (by simp[hx]))⟩
theorem beq_cons (x y:Int) (l r:List Int):(x::l==y::r)=(x==y&&l==r):=rfl
theorem ints13_any {w:World} {A A':Option Addr} {l l':List Int} {c c' n m:Nat} (hn:l.length=n) (hm:l'.length=m) (h:RowIs w w.heap.size A (l.map (Value.int .i64))) (h':RowIs w w.heap.size A' (l'.map (Value.int .i64))) (hb:n≤140737488351232):
  Calls Tryz.prog 63 #[.slice A n c,.slice A' m c'] w fun e w'=>e= .returned (.bool (l==l'))∧Below w.heap.size w w':=by
 have H:=Lib.hid h
 have H':=Lib.hid h'
 have HN:=Lib.hid hn
 have HM:=Lib.hid hm
 obtain⟨R,HR⟩:∃R,Hid ((l==l')=R):=⟨_,rfl⟩
 rw[HR.out]
 clear h h' hn hm
 by_cases e:n=m
 ·subst e
  have e1:((n:Int) !=(n:Int))=false:=by simp
  go_enter Tryz.func63,Tryz.ntmps63
  go_wp2_with fail
  go_loopw [5] (fun i wr=>∃j:Nat,i= .int .i64 j∧j≤n∧Hid (Below w.heap.size w wr)∧Hid ((l.drop j==l'.drop j)=R)) (fun i _=>n-(intOf i).toNat)
  case atStart=>exact⟨0,rfl,Nat.zero_le _,Lib.hid (Below.refl _ _),by simpa using HR⟩
  case round=>
   obtain⟨j,rfl,hj,HB,HQ⟩:=hrel
   by_cases hlt:j<n
   ·obtain⟨x,hx⟩:∃x,l[j]? =some x:=⟨_,List.getElem?_eq_getElem (by rw[HN.out];exact hlt)⟩
    obtain⟨y,hy⟩:∃y,l'[j]? =some y:=⟨_,List.getElem?_eq_getElem (by rw[HM.out];exact hlt)⟩
    obtain⟨g,o,rfl,hc⟩:=int_cells H.out hx
    obtain⟨g',o',rfl,hc'⟩:=int_cells H'.out hy
    have c1:=hc wr HB.out
    have c2:=hc' wr HB.out
    have hq:=HQ.out
    rw[drop_cons hx,drop_cons hy,beq_cons] at hq
    clear hc hc' hx hy
    by_cases hxy:x=y
    ·have e2:(x !=y)=false:=by simp[hxy]
     have HQ2:Hid ((l.drop (j+1)==l'.drop (j+1))=R):=Lib.hid (by rw[←hq,hxy];simp)
     clear hq
     go_upto_region 6 with fail
     go_quiet (fail)
     go_wp2_with fail
     go_roundw
     case rel=>exact⟨j+1,by simp,by omega,Lib.hid ⟨HB.out.os,HB.out.tape,HB.out.output,HB.out.size,HB.out.block⟩,HQ2⟩
     case measure=>simp[intOf];omega
    ·have e2:(x !=y)=true:=by simp[hxy]
     have hR:R=false:=by rw[←hq];simp[hxy]
     clear hq
     subst hR
     go_upto_region 6 with fail
     go_quiet (fail)
     go_wp2_with fail
     go_ret
     exact⟨rfl,⟨HB.out.os,HB.out.tape,HB.out.output,HB.out.size,HB.out.block⟩⟩
   ·obtain rfl:j=n:=by omega
    have hR:R=true:=by
     rw[←HQ.out,List.drop_of_length_le (by rw[HN.out];exact Nat.le_refl _),List.drop_of_length_le (by rw[HM.out];exact Nat.le_refl _)]
     rfl
    subst hR
    go_wp2_with fail
    go_ret
    exact⟨rfl,HB.out⟩
 ·have e1:((n:Int) !=(m:Int))=true:=by simp;omega
  have hR:R=false:=by
   rw[←HR.out,beq_eq_false_iff_ne]
   intro h
   rw[h] at HN
   exact e (HN.out.symm.trans HM.out)
  subst hR
  go_enter Tryz.func63,Tryz.ntmps63
  go_wp2_with fail
  go_ret
  exact⟨rfl,Below.refl _ _⟩
theorem old_cell {W wr:World} {p:Addr} {v:Value} (h:W.cell? p=some v) (hb:Below W.heap.size W wr):∀n,(wr.drewN n).cell? p=some v:=
 fun _=>(World.cell?_of_block (w:=W) (a:=p) (hb.block p.block (World.block_lt_of_cell? W _ h))).trans h
theorem old_cell0 {W wr:World} {p:Addr} {v:Value} (h:W.cell? p=some v) (hb:Below W.heap.size W wr):wr.cell? p=some v:=old_cell h hb 0
theorem under_drew {B:Nat} {w W:World} (h:Below B w W) (n:Nat):Below B w (W.drewN n):=⟨h.os,h.tape,h.output,h.size,h.block⟩
theorem ins_row {w:World} {A:Option Addr} {l:List Ci} (h:RowIs w w.heap.size A (l.flatMap insCells)) {j:Nat} {x:Ci} (hx:l[j]? =some x):
  ∃g o,A=some ⟨g,o,none⟩∧w.cell? ⟨g,o+j*5,none⟩=some (.int .i64 x.op)∧w.cell? ⟨g,o+j*5+1,none⟩=some (.int .i64 x.a)∧w.cell? ⟨g,o+j*5+2,none⟩=some (.int .i64 x.b)∧w.cell? ⟨g,o+j*5+3,none⟩=some (.string x.text)∧w.cell? ⟨g,o+j*5+4,none⟩=some (.int .i64 x.at_):=by
 have hj:j<l.length:=(List.getElem?_eq_some_iff.1 hx).1
 obtain⟨g,o,rfl,hg,hc⟩:=h.at (by rw[flat_len ins_len];omega)
 exact⟨g,o,rfl,ins_at hc hx⟩
theorem sameIs_cons (x y:Ci) (l r:List Ci):sameIs (x::l) (y::r)=(sameI x y&&sameIs l r):=rfl
theorem sameIs_len {l r:List Ci} (h:l.length≠r.length):sameIs l r=false:=by
 rw[Bool.eq_false_iff]
 intro e
 rw[sameIs_iff] at e
 exact h (by rw[e])
theorem equalIns_any {w:World} {A A':Option Addr} {l l':List Ci} {c c' n m:Nat} (hn:l.length=n) (hm:l'.length=m) (h:RowIs w w.heap.size A (l.flatMap insCells)) (h':RowIs w w.heap.size A' (l'.flatMap insCells)) (hb:n≤140737488351232):
  Calls Tryz.prog 72 #[.slice A n c,.slice A' m c'] w fun e w'=>e= .returned (.bool (sameIs l l'))∧Below w.heap.size w w':=by
 have H:=Lib.hid h
 have H':=Lib.hid h'
 have HN:=Lib.hid hn
 have HM:=Lib.hid hm
 obtain⟨R,HR⟩:∃R,Hid (sameIs l l'=R):=⟨_,rfl⟩
 rw[HR.out]
 clear h h' hn hm
 by_cases e:n=m
 ·subst e
  have e1:((n:Int) !=(n:Int))=false:=by simp
  go_enter Tryz.func72,Tryz.ntmps72
  go_wp2_with fail
  go_loopw [13] (fun i wr=>∃j:Nat,i= .int .i64 j∧j≤n∧Hid (Below w.heap.size w wr)∧Hid (sameIs (l.drop j) (l'.drop j)=R)) (fun i _=>n-(intOf i).toNat)
  case atStart=>exact⟨0,rfl,Nat.zero_le _,Lib.hid (Below.refl _ _),by simpa using HR⟩
  case round=>
   obtain⟨j,rfl,hj,HB,HQ⟩:=hrel
   by_cases hlt:j<n
   ·obtain⟨x,hx⟩:∃x,l[j]? =some x:=⟨_,List.getElem?_eq_getElem (by rw[HN.out];exact hlt)⟩
    obtain⟨y,hy⟩:∃y,l'[j]? =some y:=⟨_,List.getElem?_eq_getElem (by rw[HM.out];exact hlt)⟩
    obtain⟨g,o,rfl,x0,x1,x2,x3,x4⟩:=ins_row H.out hx
    obtain⟨g',o',rfl,y0,y1,y2,y3,y4⟩:=ins_row H'.out hy
    have c0:=old_cell x0 HB.out
    have c1:=old_cell x1 HB.out
    have c2:=old_cell x2 HB.out
    have c3:=old_cell x3 HB.out
    have c4:=old_cell x4 HB.out
    have d0:=old_cell y0 HB.out
    have d1:=old_cell y1 HB.out
    have d2:=old_cell y2 HB.out
    have d3:=old_cell y3 HB.out
    have d4:=old_cell y4 HB.out
    have hq:=HQ.out
    rw[drop_cons hx,drop_cons hy,sameIs_cons] at hq
    clear hx hy x0 x1 x2 x3 x4 y0 y1 y2 y3 y4
    have hne:=neq_inst x y
    cases hxy:sameI x y with
    |true=>
     rw[hxy] at hne
     have HQ2:Hid (sameIs (l.drop (j+1)) (l'.drop (j+1))=R):=Lib.hid (by rw[←hq,hxy];simp)
     clear hq hxy
     go_upto_region 6 with fail
     go_quiet (fail)
     go_wp2_with fail
     go_roundw
     case rel=>exact⟨j+1,by simp,by omega,Lib.hid (under_drew HB.out _),HQ2⟩
     case measure=>simp[intOf];omega
    |false=>
     rw[hxy] at hne
     have hR:R=false:=by rw[←hq];simp[hxy]
     clear hq hxy
     subst hR
     go_upto_region 6 with fail
     go_quiet (fail)
     go_wp2_with fail
     go_ret
     exact⟨rfl,under_drew HB.out _⟩
   ·obtain rfl:j=n:=by omega
    have hR:R=true:=by
     rw[←HQ.out,List.drop_of_length_le (by rw[HN.out];exact Nat.le_refl _),List.drop_of_length_le (by rw[HM.out];exact Nat.le_refl _)]
     rfl
    subst hR
    go_wp2_with fail
    go_ret
    exact⟨rfl,HB.out⟩
 ·have e1:((n:Int) !=(m:Int))=true:=by simp;omega
  have hR:R=false:=by
   rw[←HR.out]
   exact sameIs_len (by rw[HN.out,HM.out];exact e)
  subst hR
  go_enter Tryz.func72,Tryz.ntmps72
  go_wp2_with fail
  go_ret
  exact⟨rfl,Below.refl _ _⟩
theorem sameFs_cons (x y:Cf) (l r:List Cf):sameFs (x::l) (y::r)=(sameF x y&&sameFs l r):=rfl
theorem sameFs_len {l r:List Cf} (h:l.length≠r.length):sameFs l r=false:=by
 rw[Bool.eq_false_iff]
 intro e
 rw[sameFs_iff] at e
 exact h (by rw[e])
structure PgAt (w:World) (p:Cp) (n m:Nat) (fa ga:Option Addr) (xs:List (Cf×Fv)):Prop where
 fn:p.funcs.length=n
 gn:p.globals.length=m
 fs:xs.map Prod.fst=p.funcs
 fr:RowIs w w.heap.size fa (xs.flatMap fnCells)
 gr:RowIs w w.heap.size ga (p.globals.map Value.string)
 ls:∀x∈xs,LiesF w w.heap.size x
theorem LiesC.pieces {w:World} {p:Cp} {v:Value} (h:LiesC w w.heap.size p v):∃n m fa fc ga gc xs,v= .agg #[.slice fa n fc,.slice ga m gc]∧n≤fc∧m≤gc∧PgAt w p n m fa ga xs:=by
 obtain⟨fa,fc,ga,gc,xs,h1,rfl,h3,h4,h5,h6,h7⟩:=h
 exact⟨_,_,fa,fc,ga,gc,xs,rfl,h5,h6,rfl,rfl,h1,h3,h4,h7⟩
theorem PgAt.glob {w:World} {p:Cp} {n m:Nat} {fa ga:Option Addr} {xs:List (Cf×Fv)} (h:PgAt w p n m fa ga xs) {j:Nat} {s:ByteArray} (hs:p.globals[j]? =some s):∃g o,ga=some ⟨g,o,none⟩∧w.cell? ⟨g,o+j,none⟩=some (.string s):=by
 have hj:j<p.globals.length:=(List.getElem?_eq_some_iff.1 hs).1
 obtain⟨g,o,e,hg,hc⟩:=h.gr.at (by rw[List.length_map];omega)
 exact⟨g,o,e,hc j _ (by simp[hs])⟩
theorem PgAt.func {w:World} {p:Cp} {n m:Nat} {fa ga:Option Addr} {xs:List (Cf×Fv)} (h:PgAt w p n m fa ga xs) {j:Nat} {f:Cf} (hf:p.funcs[j]? =some f):∃g o fv,fa=some ⟨g,o,none⟩∧LiesF w w.heap.size (f,fv)∧
  w.cell? ⟨g,o+j*6,none⟩=some (.string f.name)∧w.cell? ⟨g,o+j*6+1,none⟩=some (.int .i64 f.params)∧w.cell? ⟨g,o+j*6+2,none⟩=some (.int .i64 f.slots)∧w.cell? ⟨g,o+j*6+3,none⟩=some (.slice fv.ta f.taken.length fv.tc)∧
   w.cell? ⟨g,o+j*6+4,none⟩=some (.int .i64 f.around)∧w.cell? ⟨g,o+j*6+5,none⟩=some (.slice fv.ca f.code.length fv.cc):=by
 have hj:j<p.funcs.length:=(List.getElem?_eq_some_iff.1 hf).1
 have hl:xs.length=p.funcs.length:=by have:=congrArg List.length h.fs;simpa using this
 obtain⟨y,hy⟩:∃y,xs[j]? =some y:=⟨_,List.getElem?_eq_getElem (by omega)⟩
 have hyf:y.1=f:=by
  have:(xs.map Prod.fst)[j]? =some y.1:=by simp[hy]
  rw[h.fs,hf] at this
  exact(Option.some.inj this).symm
 obtain⟨f',fv⟩:=y
 obtain rfl:f'=f:=hyf
 obtain⟨g,o,e,hg,hc⟩:=h.fr.at (by rw[flat_len fn_len];omega)
 exact⟨g,o,fv,e,h.ls _ (List.mem_of_getElem? hy),fn_at hc hy⟩
theorem LiesF.up {w W:World} {x:Cf×Fv} (h:LiesF w w.heap.size x) (hb:Below w.heap.size w W):LiesF W W.heap.size x:=
 have k:=h.keep hb.block
 ⟨k.1.more hb.size,k.2.1.more hb.size,k.2.2⟩
theorem heads_part (x y:Cf):((x.taken==y.taken)=false∧sameF x y=false)∨((x.taken==y.taken)=true∧(x.name.toList==y.name.toList)=false∧sameF x y=false)∨
  ((x.taken==y.taken)=true∧(x.name.toList==y.name.toList)=true∧(x.params !=y.params)=true∧sameF x y=false)∨
  ((x.taken==y.taken)=true∧(x.name.toList==y.name.toList)=true∧(x.params !=y.params)=false∧(x.slots !=y.slots)=true∧sameF x y=false)∨
  ((x.taken==y.taken)=true∧(x.name.toList==y.name.toList)=true∧(x.params !=y.params)=false∧(x.slots !=y.slots)=false∧(x.around !=y.around)=true∧sameF x y=false)∨
  ((x.taken==y.taken)=true∧(x.name.toList==y.name.toList)=true∧(x.params !=y.params)=false∧(x.slots !=y.slots)=false∧(x.around !=y.around)=false∧((x.code.length:Int) !=(y.code.length:Int))=true∧sameF x y=false)∨
  ((x.taken==y.taken)=true∧(x.name.toList==y.name.toList)=true∧(x.params !=y.params)=false∧(x.slots !=y.slots)=false∧(x.around !=y.around)=false∧((x.code.length:Int) !=(y.code.length:Int))=false∧x.code.length=y.code.length∧sameF x y=sameIs x.code y.code):=by
 have ht:x.name.toList=y.name.toList ↔ x.name=y.name:=⟨toList_inj,congrArg _⟩
 unfold sameF
 by_cases h1:x.taken=y.taken
 ·by_cases h2:x.name=y.name
  ·by_cases h3:x.params=y.params
   ·by_cases h4:x.slots=y.slots
    ·by_cases h5:x.around=y.around
     ·by_cases h6:x.code.length=y.code.length
      ·simp[h1,h2,h3,h4,h5,h6]
      ·have h7:sameIs x.code y.code=false:=sameIs_len h6
       simp[h1,h2,h3,h4,h5,h7]
       omega
     ·simp[h1,h2,h3,h4,h5]
    ·simp[h1,h2,h3,h4]
   ·simp[h1,h2,h3]
  ·simp[h1,h2,ht]
 ·simp[h1]
theorem same13_any {w:World} {p q:Cp} {v u:Value} (h:LiesC w w.heap.size p v) (h':LiesC w w.heap.size q u) (hok:CpOk p):
  Calls Tryz.prog 25 #[v,u] w fun e w'=>e= .returned (.bool (sameC p q))∧Below w.heap.size w w':=by
 obtain⟨n,m,fa,fc,ga,gc,xs,rfl,_,_,hp⟩:=h.pieces
 obtain⟨n',m',fa',fc',ga',gc',ys,rfl,_,_,hq⟩:=h'.pieces
 obtain⟨R,hR⟩:∃R,sameC p q=R:=⟨_,rfl⟩
 rw[hR]
 have hfin:∀X:World,X=(w.alloc (.cells #[.slice fa n fc,.slice ga m gc] 27 (0,0))).alloc (.cells #[.slice fa' n' fc',.slice ga' m' gc'] 27 (0,0))→Below w.heap.size w X:=by
  rintro X rfl
  exact((Below.refl _ _).alloc (Nat.le_refl _) _).alloc (by simp) _
 have hn47:n≤140737488351232:=hp.fn▸hok.1
 have hm47:m≤140737488351232:=hp.gn▸hok.2.1
 have HP:=Lib.hid hp
 have HQ:=Lib.hid hq
 have HOK:=Lib.hid hok
 have HR:=Lib.hid hR
 have FIN:=Lib.hid hfin
 clear h h' hp hq hok hR hfin
 by_cases e1:n=n'
 rotate_left
 ·have e1':((n:Int) !=(n':Int))=true:=by simp;omega
  have hR:R=false:=by
   rw[←HR.out,sameC,sameFs_len (by rw[HP.out.fn,HQ.out.fn];exact e1),Bool.and_false]
  subst hR
  go_enter Tryz.func25,Tryz.ntmps25
  go_wp2_with fail
  go_ret
  exact⟨rfl,FIN.out _ rfl⟩
 subst e1
 have e1':((n:Int) !=(n:Int))=false:=by simp
 by_cases e2:m=m'
 rotate_left
 ·have e2':((m:Int) !=(m':Int))=true:=by simp;omega
  have hR:R=false:=by
   have hg:¬p.globals=q.globals:=fun e=>e2 (by rw[←HP.out.gn,←HQ.out.gn,e])
   rw[←HR.out,sameC,decide_eq_false hg,Bool.false_and]
  subst hR
  go_enter Tryz.func25,Tryz.ntmps25
  go_wp2_with fail
  go_ret
  exact⟨rfl,FIN.out _ rfl⟩
 subst e2
 have e2':((m:Int) !=(m:Int))=false:=by simp
 go_enter Tryz.func25,Tryz.ntmps25
 go_wp2_with fail
 have hW:=FIN.out _ rfl
 have hp0:=heap_alloc_old (w.alloc (.cells #[.slice fa n fc,.slice ga m gc] 27 (0,0))) (.cells #[.slice fa' n fc',.slice ga' m gc'] 27 (0,0)) (show w.heap.size<_ by simp)|>.trans (heap_alloc_new w _)
 have hq0:=heap_alloc_new (w.alloc (.cells #[.slice fa n fc,.slice ga m gc] 27 (0,0))) (.cells #[.slice fa' n fc',.slice ga' m gc'] 27 (0,0))
 rw[World.size_alloc] at hq0
 have HF0:Hid (sameC p q=R):=HR
 obtain⟨W2,hW2⟩:∃W2,(w.alloc (.cells #[.slice fa n fc,.slice ga m gc] 27 (0,0))).alloc (.cells #[.slice fa' n fc',.slice ga' m gc'] 27 (0,0))=W2:=⟨_,rfl⟩
 simp only[hW2] at hW hp0 hq0⊢
 obtain⟨p0,p1⟩:=cr2 W2 _ hp0
 obtain⟨q0,q1⟩:=cr2 W2 _ hq0
 simp only[gq] at p0 p1 q0 q1
 have HC:=Lib.hid (And.intro p0 (And.intro p1 (And.intro q0 q1)))
 have HW:=Lib.hid hW
 clear hW hW2 hp0 hq0 p0 p1 q0 q1 FIN
 go_loopw [5] (fun i wr=>∃j:Nat,i= .int .i64 j∧j≤m∧Hid (Below W2.heap.size W2 wr)∧Hid ((decide (p.globals.drop j=q.globals.drop j)&&sameFs p.funcs q.funcs)=R)) (fun i _=>m-(intOf i).toNat)
 case atStart=>exact⟨0,rfl,Nat.zero_le _,Lib.hid (Below.refl _ _),by simpa[sameC] using HF0⟩
 case round=>
  obtain⟨j,rfl,hj,HB,HJ⟩:=hrel
  have P1:=old_cell HC.out.2.1 HB.out
  have Q1:=old_cell HC.out.2.2.2 HB.out
  have P1':=P1 0
  have Q1':=Q1 0
  simp only[World.drewN_zero] at P1' Q1'
  by_cases hlt:j<m
  ·obtain⟨x,hx⟩:∃x,p.globals[j]? =some x:=⟨_,List.getElem?_eq_getElem (by rw[HP.out.gn];exact hlt)⟩
   obtain⟨y,hy⟩:∃y,q.globals[j]? =some y:=⟨_,List.getElem?_eq_getElem (by rw[HQ.out.gn];exact hlt)⟩
   obtain⟨g,o,rfl,x0⟩:=HP.out.glob hx
   obtain⟨g',o',rfl,y0⟩:=HQ.out.glob hy
   have hbw:=HW.out.trans (HB.out.mono HW.out.size)
   have c0:=old_cell x0 hbw
   have d0:=old_cell y0 hbw
   have hq:=HJ.out
   rw[drop_cons hx,drop_cons hy] at hq
   clear hx hy x0 y0 hbw
   by_cases hxy:x=y
   ·subst hxy
    have e3:(x.toList==x.toList)=true:=by simp
    have HJ2:Hid ((decide (p.globals.drop (j+1)=q.globals.drop (j+1))&&sameFs p.funcs q.funcs)=R):=Lib.hid (by rw[←hq];simp)
    clear hq
    go_upto_region 6 with fail
    go_quiet (fail)
    go_wp2_with fail
    go_roundw
    case rel=>exact⟨j+1,by simp,by omega,Lib.hid (under_drew HB.out _),HJ2⟩
    case measure=>simp[intOf];omega
   ·have e3:(x.toList==y.toList)=false:=by
     rw[beq_eq_false_iff_ne]
     exact fun e=>hxy (toList_inj e)
    have hR:R=false:=by rw[←hq];simp[hxy]
    clear hq
    subst hR
    go_upto_region 6 with fail
    go_quiet (fail)
    go_wp2_with fail
    go_ret
    exact⟨rfl,HW.out.trans ((under_drew HB.out _).mono HW.out.size)⟩
  ·obtain rfl:j=m:=by omega
   have hfs:sameFs p.funcs q.funcs=R:=by
    have:=HJ.out
    rw[List.drop_of_length_le (by rw[HP.out.gn];exact Nat.le_refl _),List.drop_of_length_le (by rw[HQ.out.gn];exact Nat.le_refl _)] at this
    simpa using this
   have HS:=Lib.hid hfs
   clear hfs
   go_wp2_with fail
   clear P1 Q1 P1' Q1' HJ
   go_loopw [6] (fun i ws=>∃k:Nat,i= .int .i64 k∧k≤n∧Hid (Below W2.heap.size W2 ws)∧Hid (sameFs (p.funcs.drop k) (q.funcs.drop k)=R)) (fun i _=>n-(intOf i).toNat)
   case atStart=>exact⟨0,rfl,Nat.zero_le _,HB,by simpa using HS⟩
   case round=>
    clear HB HS
    obtain⟨k,rfl,hk,HB,HJ⟩:=hrel
    have P0:=old_cell0 HC.out.1 HB.out
    have Q0:=old_cell0 HC.out.2.2.1 HB.out
    by_cases hkt:k<n
    ·obtain⟨x,hx⟩:∃x,p.funcs[k]? =some x:=⟨_,List.getElem?_eq_getElem (by rw[HP.out.fn];exact hkt)⟩
     obtain⟨y,hy⟩:∃y,q.funcs[k]? =some y:=⟨_,List.getElem?_eq_getElem (by rw[HQ.out.fn];exact hkt)⟩
     obtain⟨g,o,fv,rfl,hlx,x0,x1,x2,x3,x4,x5⟩:=HP.out.func hx
     obtain⟨g',o',fv',rfl,hly,y0,y1,y2,y3,y4,y5⟩:=HQ.out.func hy
     have hbw:=HW.out.trans (HB.out.mono HW.out.size)
     have c0:=old_cell0 x0 hbw
     have c1:=old_cell0 x1 hbw
     have c2:=old_cell0 x2 hbw
     have c3:=old_cell0 x3 hbw
     have c4:=old_cell0 x4 hbw
     have c5:=old_cell0 x5 hbw
     have d0:=old_cell0 y0 hbw
     have d1:=old_cell0 y1 hbw
     have d2:=old_cell0 y2 hbw
     have d3:=old_cell0 y3 hbw
     have d4:=old_cell0 y4 hbw
     have d5:=old_cell0 y5 hbw
     have hq:=HJ.out
     rw[drop_cons hx,drop_cons hy,sameFs_cons] at hq
     have HLX:=Lib.hid (hlx.up hbw)
     have HLY:=Lib.hid (hly.up hbw)
     have HOX:=Lib.hid (HOK.out.2.2.1 x (List.mem_of_getElem? hx))
     have HPT:=Lib.hid (heads_part x y)
     have HJ2:=Lib.hid hq
     clear hx hy x0 x1 x2 x3 x4 x5 y0 y1 y2 y3 y4 y5 hq hlx hly hbw
     obtain⟨tn,htn⟩:∃tn,x.taken.length=tn:=⟨_,rfl⟩
     obtain⟨tn',htn'⟩:∃tn,y.taken.length=tn:=⟨_,rfl⟩
     obtain⟨cn,hcn⟩:∃cn,x.code.length=cn:=⟨_,rfl⟩
     obtain⟨cn',hcn'⟩:∃cn,y.code.length=cn:=⟨_,rfl⟩
     rw[htn] at c3
     rw[htn'] at d3
     rw[hcn] at c5
     rw[hcn'] at d5
     rw[hcn,hcn'] at HPT
     have htb:tn≤140737488351232:=by rw[←htn];exact HOX.out.2.2.2.2.1
     have hcb:cn≤140737488351232:=by rw[←hcn];exact HOX.out.2.2.2.2.2.1
     have HN:=Lib.hid (And.intro htn (And.intro htn' (And.intro hcn hcn')))
     clear htn htn' hcn hcn'
     have k1:=World.block_lt_of_cell? wr _ P0
     have k2:=World.block_lt_of_cell? wr _ Q0
     have k3:=World.block_lt_of_cell? wr _ c0
     have k4:=World.block_lt_of_cell? wr _ d0
     dsimp only at k1 k2 k3 k4
     go_upto_region 13 with fail
     have hB3:Below wr.heap.size wr ((wr.alloc (.cells #[.string x.name,.int .i64 x.params,.int .i64 x.slots,.slice fv.ta tn fv.tc,.int .i64 x.around,.slice fv.ca cn fv.cc] 33 (0,0))).alloc (.cells #[.string y.name,.int .i64 y.params,.int .i64 y.slots,.slice fv'.ta tn' fv'.tc,.int .i64 y.around,.slice fv'.ca cn' fv'.cc] 33 (0,0))):=((Below.refl _ _).alloc (Nat.le_refl _) _).alloc (by simp) _
     have hx0:=heap_alloc_old (wr.alloc (.cells #[.string x.name,.int .i64 x.params,.int .i64 x.slots,.slice fv.ta tn fv.tc,.int .i64 x.around,.slice fv.ca cn fv.cc] 33 (0,0))) (.cells #[.string y.name,.int .i64 y.params,.int .i64 y.slots,.slice fv'.ta tn' fv'.tc,.int .i64 y.around,.slice fv'.ca cn' fv'.cc] 33 (0,0)) (show wr.heap.size<_ by simp)|>.trans (heap_alloc_new wr _)
     have hy0:=heap_alloc_new (wr.alloc (.cells #[.string x.name,.int .i64 x.params,.int .i64 x.slots,.slice fv.ta tn fv.tc,.int .i64 x.around,.slice fv.ca cn fv.cc] 33 (0,0))) (.cells #[.string y.name,.int .i64 y.params,.int .i64 y.slots,.slice fv'.ta tn' fv'.tc,.int .i64 y.around,.slice fv'.ca cn' fv'.cc] 33 (0,0))
     rw[World.size_alloc] at hy0
     obtain⟨W3,hW3⟩:∃W3,(wr.alloc (.cells #[.string x.name,.int .i64 x.params,.int .i64 x.slots,.slice fv.ta tn fv.tc,.int .i64 x.around,.slice fv.ca cn fv.cc] 33 (0,0))).alloc (.cells #[.string y.name,.int .i64 y.params,.int .i64 y.slots,.slice fv'.ta tn' fv'.tc,.int .i64 y.around,.slice fv'.ca cn' fv'.cc] 33 (0,0))=W3:=⟨_,rfl⟩
     obtain⟨xb,hxb⟩:∃xb,wr.heap.size=xb:=⟨_,rfl⟩
     simp only[hW3,hxb] at hB3 hx0 hy0 k1 k2 k3 k4⊢
     have t0:=fun k=>cell_of_row W3 xb k _ _ _ hx0
     have s0:=fun k=>cell_of_row W3 (xb+1) k _ _ _ hy0
     have a0:=t0 0
     have a1:=t0 1
     have a2:=t0 2
     have a3:=t0 3
     have a4:=t0 4
     have a5:=t0 5
     have b0:=s0 0
     have b1:=s0 1
     have b2:=s0 2
     have b3:=s0 3
     have b4:=s0 4
     have b5:=s0 5
     simp only[gq] at a0 a1 a2 a3 a4 a5 b0 b1 b2 b3 b4 b5
     have HA:=Lib.hid (And.intro a0 (And.intro a1 (And.intro a2 (And.intro a4 a5))))
     have HE:=Lib.hid (And.intro b0 (And.intro b1 (And.intro b2 (And.intro b4 b5))))
     have HB3:=Lib.hid hB3
     have hB3':Below wr.heap.size wr W3:=by rw[hxb];exact hB3
     have HX:=Lib.hid (HLX.out.up hB3')
     have HY:=Lib.hid (HLY.out.up hB3')
     have HBW:Hid (Below W2.heap.size W2 W3):=Lib.hid (HB.out.trans (hB3'.mono HB.out.size))
     clear hW3 hxb hx0 hy0 t0 s0 hB3 hB3' c0 c1 c2 c3 c4 c5 d0 d1 d2 d3 d4 d5 P0 Q0 a0 a1 a2 a4 a5 b0 b1 b2 b4 b5 HLX HLY
     go_upto_region 14 with(go_at_call 63;refine(ints13_any HN.out.1 HN.out.2.1 HX.out.1 HY.out.1 htb).mono ?_;rintro e w5 ⟨rfl,hb5⟩)
     have A0:=old_cell0 HA.out.1 hb5
     have A1:=old_cell0 HA.out.2.1 hb5
     have A2:=old_cell0 HA.out.2.2.1 hb5
     have A4:=old_cell0 HA.out.2.2.2.1 hb5
     have A5:=old_cell0 HA.out.2.2.2.2 hb5
     have B0:=old_cell0 HE.out.1 hb5
     have B1:=old_cell0 HE.out.2.1 hb5
     have B2:=old_cell0 HE.out.2.2.1 hb5
     have B4:=old_cell0 HE.out.2.2.2.1 hb5
     have B5:=old_cell0 HE.out.2.2.2.2 hb5
     have HB5:=Lib.hid hb5
     have HBZ:Hid (Below W2.heap.size W2 w5):=Lib.hid (HBW.out.trans (hb5.mono HBW.out.size))
     clear hb5 a3 b3
     rcases HPT.out with⟨g0,hs⟩|⟨g0,g1,hs⟩|⟨g0,g1,g2,hs⟩|⟨g0,g1,g2,g3,hs⟩|⟨g0,g1,g2,g3,g4,hs⟩|⟨g0,g1,g2,g3,g4,g5,hs⟩|⟨g0,g1,g2,g3,g4,g5,g6,hs⟩
     rotate_right
     ·have hj2:=HJ2.out
      rw[hs] at hj2
      have HJ3:=Lib.hid hj2
      clear hs hj2
      rw[g0]
      subst g6
      go_wp2_with fail
      clear A0 A1 A2 A4 A5 B0 B1 B2 B4 B5
      go_loopw [10] (fun i wt=>∃z:Nat,i= .int .i64 z∧z≤cn∧Hid (Below w5.heap.size w5 wt)∧Hid ((sameIs (x.code.drop z) (y.code.drop z)&&sameFs (p.funcs.drop (k+1)) (q.funcs.drop (k+1)))=R)) (fun i _=>cn-(intOf i).toNat)
      case atStart=>exact⟨0,rfl,Nat.zero_le _,Lib.hid (Below.refl _ _),by simpa using HJ3⟩
      case round=>
       clear HJ3
       obtain⟨z,rfl,hz,HBT,HJ4⟩:=hrel
       have hb3t:=HB5.out.trans (HBT.out.mono HB5.out.size)
       have A5:=old_cell HA.out.2.2.2.2 hb3t
       have B5:=old_cell HE.out.2.2.2.2 hb3t
       have A5':=A5 0
       have B5':=B5 0
       simp only[World.drewN_zero] at A5' B5'
       by_cases hzt:z<cn
       ·obtain⟨r,hr⟩:∃r,x.code[z]? =some r:=⟨_,List.getElem?_eq_getElem (by rw[HN.out.2.2.1];exact hzt)⟩
        obtain⟨s,hs⟩:∃s,y.code[z]? =some s:=⟨_,List.getElem?_eq_getElem (by rw[HN.out.2.2.2];exact hzt)⟩
        obtain⟨ig,io,hi1,i0,i1,i2,i3,i4⟩:=ins_row HX.out.2.1 hr
        obtain⟨jg,jo,hj1,j0,j1,j2,j3,j4⟩:=ins_row HY.out.2.1 hs
        dsimp only at hi1 hj1
        rw[hi1] at A5 A5'
        rw[hj1] at B5 B5'
        have i0:=old_cell i0 hb3t
        have i1:=old_cell i1 hb3t
        have i2:=old_cell i2 hb3t
        have i3:=old_cell i3 hb3t
        have i4:=old_cell i4 hb3t
        have j0:=old_cell j0 hb3t
        have j1:=old_cell j1 hb3t
        have j2:=old_cell j2 hb3t
        have j3:=old_cell j3 hb3t
        have j4:=old_cell j4 hb3t
        have hq:=HJ4.out
        rw[drop_cons hr,drop_cons hs,sameIs_cons] at hq
        clear hr hs hb3t hi1 hj1
        have hne:=neq_inst r s
        cases hxy:sameI r s with
        |true=>
         rw[hxy] at hne
         have HJ5:Hid ((sameIs (x.code.drop (z+1)) (y.code.drop (z+1))&&sameFs (p.funcs.drop (k+1)) (q.funcs.drop (k+1)))=R):=Lib.hid (by rw[←hq,hxy];simp)
         clear hq hxy
         go_upto_region 19 with fail
         go_quiet (fail)
         go_wp2_with fail
         go_roundw
         case rel=>exact⟨z+1,by simp,by omega,Lib.hid (under_drew HBT.out _),HJ5⟩
         case measure=>simp[intOf];omega
        |false=>
         rw[hxy] at hne
         have hR:R=false:=by rw[←hq];simp[hxy]
         clear hq hxy
         subst hR
         go_upto_region 19 with fail
         go_quiet (fail)
         go_wp2_with fail
         go_ret
         exact⟨rfl,HW.out.trans ((HBZ.out.trans ((under_drew HBT.out _).mono HBZ.out.size)).mono HW.out.size)⟩
       ·obtain rfl:z=cn:=by omega
        have hj5:=HJ4.out
        rw[List.drop_of_length_le (by rw[HN.out.2.2.1];exact Nat.le_refl _),List.drop_of_length_le (by rw[HN.out.2.2.2];exact Nat.le_refl _)] at hj5
        have HJ5:Hid (sameFs (p.funcs.drop (k+1)) (q.funcs.drop (k+1))=R):=Lib.hid (by simpa[sameIs] using hj5)
        clear hj5
        go_wp2_with fail
        go_roundw
        case rel=>exact⟨k+1,by simp,by omega,Lib.hid (HBZ.out.trans (HBT.out.mono HBZ.out.size)),HJ5⟩
        case measure=>simp[intOf];omega
     all_goals
      have hR:R=false:=by rw[←HJ2.out,hs];rfl
      clear hs
      subst hR
      rw[g0]
      go_wp2_with fail
      go_ret
      exact⟨rfl,HW.out.trans (HBZ.out.mono HW.out.size)⟩
    ·obtain rfl:k=n:=by omega
     have hR:R=true:=by
      rw[←HJ.out,List.drop_of_length_le (by rw[HP.out.fn];exact Nat.le_refl _),List.drop_of_length_le (by rw[HQ.out.fn];exact Nat.le_refl _)]
      rfl
     subst hR
     go_wp2_with fail
     go_ret
     exact⟨rfl,HW.out.trans (HB.out.mono HW.out.size)⟩
def formCells (f:Cform):List Value:=[.string ⟨⟨f.word⟩⟩,.int .i64 f.a,.int .i64 f.text,.string ⟨⟨f.takes⟩⟩,.string ⟨⟨f.lays⟩⟩]
def formV (f:Cform):Value:= .agg #[.string ⟨⟨f.word⟩⟩,.int .i64 f.a,.int .i64 f.text,.string ⟨⟨f.takes⟩⟩,.string ⟨⟨f.lays⟩⟩]
theorem form_len (f:Cform):(formCells f).length=5:=rfl
theorem forms_result (tmps:Array Value) (W:World) (g:Nat) (v0 v1 v2 v3 v4:Value) (h2:tmps.getD 2 undef= .pointer (some ⟨g,0,none⟩)) (e0:W.cell? ⟨g,0,none⟩=some v0) (e1:W.cell? ⟨g,1,none⟩=some v1) (e2:W.cell? ⟨g,2,none⟩=some v2) (e3:W.cell? ⟨g,3,none⟩=some v3) (e4:W.cell? ⟨g,4,none⟩=some v4):
  (results Tryz.f44 tmps).run Tryz.prog W= .ok (.agg #[v0,v1,v2,v3,v4]) W:=by
 have h2':tmps[2]?.getD undef= .pointer (some ⟨g,0,none⟩):=by simpa using h2
 have hres:Tryz.f44.results= #[ResultVar.cell 2 86]:=rfl
 simp[results,go_sem,h2',e0,e1,e2,e3,e4]
theorem forms_any (op:Int) (w:World):Calls Tryz.prog 44 #[.int .i64 op] w fun e w'=>e= .returned (formV (formOf op))∧Below w.heap.size w w':=by
 go_enter Tryz.func44,Tryz.ntmps44
 go_upto_region 2 with fail
 refine wp_build _ _ rfl (by kernel_rfl) ?_
 obtain⟨T,hT⟩:∃T:Array Value,(formsT.flatMap formCells).toArray=T:=⟨_,rfl⟩
 have hb:∀(x:Array Value),x=(formsT.flatMap formCells).toArray→x=T:=fun x h=>h.trans hT
 rw[hb (Option.getD _ #[]) (by kernel_rfl)]
 clear hb
 have hsz:T.size=270:=by rw[←hT];kernel_rfl
 have h1:∀v∈T.toList,v.oneCell'=true:=by rw[←hT];exact of_decide_eq_true (by kernel_rfl)
 have hst:(storeCells ⟨w.heap.size+1,0,none⟩ T.toList).run Tryz.prog ((w.alloc (.cells #[.string ⟨#[]⟩,.int .i64 0,.int .i64 0,.string ⟨#[]⟩,.string ⟨#[]⟩] 86)).alloc (.cells Tryz.zeroCells135 135))=
   .ok () (((w.alloc (.cells #[.string ⟨#[]⟩,.int .i64 0,.int .i64 0,.string ⟨#[]⟩,.string ⟨#[]⟩] 86)).alloc (.cells Tryz.zeroCells135 135)).setRow (w.heap.size+1) T):=by
  have hg:=heap_alloc_new (w.alloc (.cells #[.string ⟨#[]⟩,.int .i64 0,.int .i64 0,.string ⟨#[]⟩,.string ⟨#[]⟩] 86)) (.cells Tryz.zeroCells135 135)
  rw[World.size_alloc] at hg
  have:=run_storeCells_from (P:=Tryz.prog) (w.heap.size+1) 135 T.toList 0 _ _ hg (by rw[Array.length_toList,hsz];kernel_rfl) h1
  simpa using this
 obtain⟨W2,hW2⟩:∃W2,((w.alloc (.cells #[.string ⟨#[]⟩,.int .i64 0,.int .i64 0,.string ⟨#[]⟩,.string ⟨#[]⟩] 86)).alloc (.cells Tryz.zeroCells135 135)).setRow (w.heap.size+1) T=W2:=⟨_,rfl⟩
 rw[hW2] at hst
 obtain⟨hsz2,hg2,hg1,hbel⟩:=setRow_facts _ _ _ _ _ _ _ hW2
 obtain⟨e0,e1,e2,e3,e4⟩:=cr5 W2 w.heap.size hg1
 simp only[gq] at e0 e1 e2 e3 e4
 have HB:=Lib.hid hbel
 have HG:=Lib.hid hg2
 have HT:=Lib.hid hT
 clear hT h1 hW2 hbel hg2
 have hfz:∀i,W2.frozen? ⟨w.heap.size,i,none⟩=false:=fun i=>by simp[World.frozen?,hg1]
 have f0:=hfz 0
 have f1:=hfz 1
 have f2:=hfz 2
 have f3:=hfz 3
 have f4:=hfz 4
 have HG1:=Lib.hid hg1
 clear hg1 hfz
 by_cases hlo:op<1
 ·have d0:decide (op<1)=true:=decide_eq_true hlo
  go_wp2_with fail
  refine bodyPost_ret (forms_result _ _ w.heap.size (.string ⟨#[]⟩) (.int .i64 0) (.int .i64 0) (.string ⟨#[]⟩) (.string ⟨#[]⟩) rfl ?_ ?_ ?_ ?_ ?_) rfl ⟨?_, ?_⟩
  iterate 5 (·first|(simp[e0,e1,e2,e3,e4];done)|(go_simp;done))
  ·rw[show formOf op= .no from if_neg (by omega)];rfl
  ·exact((((HB.out.setCell (Nat.le_refl _) _).setCell (Nat.le_refl _) _).setCell (Nat.le_refl _) _).setCell (Nat.le_refl _) _).setCell (Nat.le_refl _) _
 ·by_cases hhi:53<op
  ·have d0:decide (op<1)=false:=decide_eq_false hlo
   have d1:decide (53<op)=true:=decide_eq_true hhi
   go_wp2_with fail
   refine bodyPost_ret (forms_result _ _ w.heap.size (.string ⟨#[]⟩) (.int .i64 0) (.int .i64 0) (.string ⟨#[]⟩) (.string ⟨#[]⟩) rfl ?_ ?_ ?_ ?_ ?_) rfl ⟨?_, ?_⟩
   iterate 5 (·first|(simp[e0,e1,e2,e3,e4];done)|(go_simp;done))
   ·rw[show formOf op= .no from if_neg (by omega)];rfl
   ·exact((((HB.out.setCell (Nat.le_refl _) _).setCell (Nat.le_refl _) _).setCell (Nat.le_refl _) _).setCell (Nat.le_refl _) _).setCell (Nat.le_refl _) _
  ·obtain⟨n,rfl⟩:∃n:Nat,op=n:=⟨op.toNat,by omega⟩
   have hn:n<54:=by omega
   obtain⟨F,hF⟩:∃F,formsT[n]? =some F:=⟨_,List.getElem?_eq_getElem (show n<formsT.length from hn)⟩
   have hform:formOf n=F:=by
    unfold formOf
    rw[if_pos (by omega),List.getD_eq_getElem?_getD]
    simp[hF]
   have hcell:∀k,k<5→W2.cell? ⟨w.heap.size+1,n*5+k,none⟩=(formCells F)[k]? :=by
    intro k hk
    rw[cell_of_row W2 (w.heap.size+1) (n*5+k) _ _ _ HG.out,←HT.out,List.getElem?_toArray]
    exact flat_at form_len formsT n F hF k hk
   have t0:=hcell 0 (by omega)
   have t1:=hcell 1 (by omega)
   have t2:=hcell 2 (by omega)
   have t3:=hcell 3 (by omega)
   have t4:=hcell 4 (by omega)
   simp only[formCells,List.getElem?_cons_zero,List.getElem?_cons_succ,Nat.add_zero] at t0 t1 t2 t3 t4
   have HF:=Lib.hid hform
   clear hcell hF hform
   have d0:decide ((n:Int)<1)=false:=decide_eq_false hlo
   have d1:decide (53<(n:Int))=false:=decide_eq_false hhi
   have hn5:n*5+5≤270:=by omega
   go_wp2_with fail
   refine bodyPost_ret (forms_result _ _ w.heap.size (.string ⟨⟨F.word⟩⟩) (.int .i64 F.a) (.int .i64 F.text) (.string ⟨⟨F.takes⟩⟩) (.string ⟨⟨F.lays⟩⟩) rfl ?_ ?_ ?_ ?_ ?_) rfl ⟨?_, ?_⟩
   iterate 5 (·first|(simp[e0,e1,e2,e3,e4];done)|(go_simp;done))
   ·rw[HF.out];rfl
   ·exact((((HB.out.setCell (Nat.le_refl _) _).setCell (Nat.le_refl _) _).setCell (Nat.le_refl _) _).setCell (Nat.le_refl _) _).setCell (Nat.le_refl _) _
theorem forms_call (op:Int) (w:World):Calls Tryz.prog 44 #[.int .i64 op] w fun e w'=>e= .returned (.agg #[.string ⟨⟨(formOf op).word⟩⟩,.int .i64 (formOf op).a,.int .i64 (formOf op).text,.string ⟨⟨(formOf op).takes⟩⟩,.string ⟨⟨(formOf op).lays⟩⟩])∧Below w.heap.size w w':=forms_any op w
section
variable (a b c d e:Value) (w:World)
theorem fieldFm0:Sem.run Tryz.prog (Instr.field 86 (.agg #[a,b,c,d,e]) 0) w= .ok a w:=by kernel_rfl
theorem fieldFm1:Sem.run Tryz.prog (Instr.field 86 (.agg #[a,b,c,d,e]) 1) w= .ok b w:=by kernel_rfl
theorem fieldFm2:Sem.run Tryz.prog (Instr.field 86 (.agg #[a,b,c,d,e]) 2) w= .ok c w:=by kernel_rfl
end
attribute [local go_sem] fieldFm1
theorem goes_any (op:Int) (w:World):Calls Tryz.prog 83 #[.int .i64 op] w fun e w'=>e= .returned (.bool (goesB op))∧Below w.heap.size w w':=by
 have HF:=Lib.hid (forms_call op)
 have HG:Hid (goesB op=((formOf op).a==10)):=rfl
 generalize formOf op=F at HF HG
 go_enter Tryz.func83,Tryz.ntmps83
 go_wp2_with (go_at_call 44;refine(HF.out _).mono ?_;rintro e w1 ⟨rfl,hb1⟩)
 go_ret
 exact⟨ret_bool (by rw[HG.out];rw[Bool.eq_iff_iff];simp;omega),hb1⟩
end Go.Proofs.YtagnicbknbmccaaGreatDoor
