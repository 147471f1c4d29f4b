/- guiseref13.Right: what is wrong with a program. -/
import Derived.Test.YtagnicbknbmccaaGreatDoorMCwF
import Derived.Test.YtagnicbknbmccaaGreatDoorSqC
import Derived.Test.YtagnicbknbmccaaGreatDoorRgN
import Derived.Test.YtagnicbknbmccaaGreatDoorRsI
import Derived.Test.YtagnicbknbmccaaGreatDoorMCyP
import Derived.Test.YtagnicbknbmccaaGreatDoorMCzV
set_option maxRecDepth 100000
set_option maxHeartbeats 40000000
namespace Go.Proofs.YtagnicbknbmccaaGreatDoor
open Go.RowKit
theorem many_zero {p:Cp} (h:p.funcs.length<1∨20000<p.funcs.length∨20000<p.globals.length∨60000<manySum p.funcs) (hs:manySum p.funcs≤4000000000000):rightC p=some ⟨22,0,none⟩:=by
 have:=manySum_pos p.funcs
 rw[right_many]
 unfold manyC
 rw[show IntKind.i64.wrap (manySum p.funcs)=manySum p.funcs by rw[IntKind.wrap_i64];omega,if_pos h]
 rfl
theorem many_from {p:Cp} (h:¬(p.funcs.length<1∨20000<p.funcs.length∨20000<p.globals.length∨60000<manySum p.funcs)) (_hs:manySum p.funcs≤4000000000000):manyC p=manyFrom p.funcs 0:=by
 have:=manySum_pos p.funcs
 unfold manyC
 rw[show IntKind.i64.wrap (manySum p.funcs)=manySum p.funcs by rw[IntKind.wrap_i64];omega,if_neg h]
theorem drop_atR {α:Type} {l:List α} {k:Nat} {x:α} (h:l[k]? =some x):l.drop k=x::l.drop (k+1):=by
 obtain⟨hk,e⟩:=List.getElem?_eq_some_iff.1 h
 rw[List.drop_eq_getElem_cons hk,e]
theorem codes_body {p:Cp} {k:Nat} {o:Cf} {r:List Cf}:codesFrom p k (o::r)=match bodyC p k o with
  |some c=>some c
  |none=>codesFrom p (k+1) r:=by
 unfold bodyC
 rw[codesFrom]
 by_cases h:o.code=[]
 ·rw[if_pos h,if_pos h]
 ·rw[if_neg h,if_neg h]
  cases fineFrom p k o.code 0 o.code<;>rfl
theorem fits_one {k:Nat} {o:Cf} {r:List Cf}:fitsFrom k (o::r)=match fitC k (fitsP o.code) with
  |some c=>some c
  |none=>fitsFrom (k+1) r:=by
 rw[fitsFrom]
 cases fitsP o.code<;>rfl
def wA:Option Cwr→Int
 |none=>0
 |some c=>c.code
def wB:Option Cwr→Int
 |none=>0
 |some c=>c.at_
def wC:Option Cwr→ByteArray
 |none=>⟨#[]⟩
 |some c=>insName c.ins
theorem body_code {p:Cp} {k:Nat} {o:Cf} {c:Cwr} (h:bodyC p k o=some c):c.code=130:=by
 unfold bodyC at h
 split at h
 ·obtain rfl:=Option.some.inj h;rfl
 ·split at h
  ·obtain rfl:=Option.some.inj h;rfl
  ·cases h
theorem fit_code {k:Nat} {r:Option Int} {c:Cwr} (h:fitC k r=some c):c.code=130:=by
 cases r with
 |none=>cases h
 |some e=>obtain rfl:=Option.some.inj h;rfl
theorem wrV_eq:∀r:Option Cwr,wrV r= .agg #[.int .i64 (wA r),.int .i64 (wB r),.string (wC r)]
 |none=>rfl
 |some _=>rfl
structure BxS (w W:World) (bp br wb:Nat) (pc:Array Value) (A B:Int) (C:ByteArray):Prop where
 bd:BdS w W bp br pc
 hw:W.heap[wb]? =some (.cells #[.int .i64 A,.int .i64 B,.string C] 46 (0,0))
 lo:w.heap.size≤wb
 ne:wb≠br∧wb≠bp
section
variable {w W W':World} {bp br wb:Nat} {pc:Array Value} {A B:Int} {C:ByteArray}
theorem BdS.setO (h:BdS w W bp br pc) (hlo:w.heap.size≤wb) (hne:wb≠br∧wb≠bp) (i:Nat) (v:Value):BdS w (W.setCell ⟨wb,i,none⟩ v) bp br pc:=by
 have hk:∀k,k≠wb→(W.setCell ⟨wb,i,none⟩ v).heap[k]? =W.heap[k]? :=fun k hk=>Below.heap_setCell _ _ _ _ hk
 exact⟨h.low.setCell hlo v,(hk bp hne.2.symm).trans h.hp,(hk br hne.1.symm).trans h.hr,h.ord⟩
theorem BxS.under (h:BxS w W bp br wb pc A B C) (hb:Below W.heap.size W W'):BxS w W' bp br wb pc A B C:=
 ⟨h.bd.under hb,(hb.block wb (Array.getElem?_eq_some_iff.1 h.hw).1).trans h.hw,h.lo,h.ne⟩
theorem BxS.put (h:BxS w W bp br wb pc A B C) (A' B':Int) (C':ByteArray):BxS w (((W.setCell ⟨wb,0,none⟩ (.int .i64 A')).setCell ⟨wb,1,none⟩ (.int .i64 B')).setCell ⟨wb,2,none⟩ (.string C')) bp br wb pc A' B' C':=
 ⟨((h.bd.setO h.lo h.ne 0 _).setO h.lo h.ne 1 _).setO h.lo h.ne 2 _,heap_setCell_same _ wb 2 _ _ _ (heap_setCell_same _ wb 1 _ _ _ (heap_setCell_same W wb 0 _ _ _ h.hw)),h.lo,h.ne⟩
theorem BxS.made (h:BdS w W bp br pc) (A B:Int) (C:ByteArray):BxS w (W.alloc (.cells #[.int .i64 A,.int .i64 B,.string C] 46 (0,0))) bp br W.heap.size pc A B C:=
 ⟨h.under ((Below.refl _ _).alloc (Nat.le_refl _) _),heap_alloc_new _ _,h.low.size,by have:=(Array.getElem?_eq_some_iff.1 h.hr).1;omega,by have:=(Array.getElem?_eq_some_iff.1 h.hp).1;omega⟩
theorem BxS.fr (h:BxS w W bp br wb pc A B C):W.cell? ⟨wb,0,none⟩=some (.int .i64 A)∧W.cell? ⟨wb,1,none⟩=some (.int .i64 B)∧W.cell? ⟨wb,2,none⟩=some (.string C)∧W.frozen? ⟨wb,0,none⟩=false∧W.frozen? ⟨wb,1,none⟩=false∧W.frozen? ⟨wb,2,none⟩=false:=
 ⟨(cell_of_row W wb 0 _ _ _ h.hw).trans rfl,(cell_of_row W wb 1 _ _ _ h.hw).trans rfl,(cell_of_row W wb 2 _ _ _ h.hw).trans rfl,frozen_of_row W wb 0 _ _ h.hw,frozen_of_row W wb 1 _ _ h.hw,frozen_of_row W wb 2 _ _ h.hw⟩
theorem BxS.pcs {a b:Value} (h:BxS w W bp br wb #[a,b] A B C):W.cell? ⟨bp,0,none⟩=some a∧W.cell? ⟨bp,1,none⟩=some b:=⟨(cell_of_row W bp 0 _ _ _ h.bd.hp).trans rfl,(cell_of_row W bp 1 _ _ _ h.bd.hp).trans rfl⟩
theorem BdS.pcs {a b:Value} (h:BdS w W bp br #[a,b]):W.cell? ⟨bp,0,none⟩=some a∧W.cell? ⟨bp,1,none⟩=some b:=⟨(cell_of_row W bp 0 _ _ _ h.hp).trans rfl,(cell_of_row W bp 1 _ _ _ h.hp).trans rfl⟩
end
theorem r13_Right {p:Cp} {n m fc gc:Nat} {fa ga:Option Addr} {xs:List (Cf×Fv)} {w:World} (hp:PgAt w p n m fa ga xs) (ht:Tame p):
  Calls Tryz.prog 16 #[.agg #[.slice fa n fc,.slice ga m gc]] w (WvPost (rightC p) w):=by
 obtain⟨R,hR⟩:∃R,rightC p=R:=⟨_,rfl⟩
 rw[hR]
 have HN:=Lib.hid hp.fn
 have HM:=Lib.hid hp.gn
 have hn:n≤140737488351232:=hp.fn▸ht.ok.1
 have hm2:m≤140737488351232:=hp.gn▸ht.ok.2.1
 have HZ:Hid (n<1∨20000<n∨20000<m∨60000<manySum p.funcs→R=some ⟨22,0,none⟩):=Lib.hid fun h=>by
  rw[←hR]
  refine many_zero ?_ ht.sum
  rw[HN.out,HM.out]
  exact h
 by_cases h1:n<1
 ·have hr:=HZ.out (.inl h1)
  subst hr
  have b1:decide ((n:Int)<1)=true:=by simp;omega
  clear hp ht hR HZ h1
  unfold WvPost
  go_enter Tryz.func16,Tryz.ntmps16
  go_upto_region 2 with fail
  have hB2:Below w.heap.size w ((w.alloc (.cells #[.slice fa n fc,.slice ga m gc] 27 (0,0))).alloc (.cells #[.int .i64 0,.int .i64 0,.string ⟨#[]⟩] 46 (0,0))):=((Below.refl _ _).alloc (Nat.le_refl _) _).alloc (by simp) _
  have hbp0:((w.alloc (.cells #[.slice fa n fc,.slice ga m gc] 27 (0,0))).alloc (.cells #[.int .i64 0,.int .i64 0,.string ⟨#[]⟩] 46 (0,0))).heap[w.heap.size]? =some (.cells #[.slice fa n fc,.slice ga m gc] 27 (0,0)):=by
   rw[heap_alloc_old _ _ (by simp)];exact heap_alloc_new _ _
  have hbr0:((w.alloc (.cells #[.slice fa n fc,.slice ga m gc] 27 (0,0))).alloc (.cells #[.int .i64 0,.int .i64 0,.string ⟨#[]⟩] 46 (0,0))).heap[w.heap.size+1]? =some (.cells #[.int .i64 0,.int .i64 0,.string ⟨#[]⟩] 46 (0,0)):=by
   have:=heap_alloc_new (w.alloc (.cells #[.slice fa n fc,.slice ga m gc] 27 (0,0))) (.cells #[.int .i64 0,.int .i64 0,.string ⟨#[]⟩] 46 (0,0))
   rwa [World.size_alloc] at this
  have hsz0:((w.alloc (.cells #[.slice fa n fc,.slice ga m gc] 27 (0,0))).alloc (.cells #[.int .i64 0,.int .i64 0,.string ⟨#[]⟩] 46 (0,0))).heap.size=w.heap.size+2:=by simp
  obtain⟨w0,hw0⟩:∃w0,(w.alloc (.cells #[.slice fa n fc,.slice ga m gc] 27 (0,0))).alloc (.cells #[.int .i64 0,.int .i64 0,.string ⟨#[]⟩] 46 (0,0))=w0:=⟨_,rfl⟩
  simp only[hw0] at hB2 hbp0 hbr0 hsz0⊢
  obtain⟨bp,hbp⟩:∃bp,w.heap.size=bp:=⟨_,rfl⟩
  obtain⟨br,hbr⟩:∃br,bp+1=br:=⟨_,rfl⟩
  simp only[hbp] at hbp0 hbr0 hsz0⊢
  simp only[hbr] at hbr0⊢
  have HS:Hid (BdS w w0 bp br #[.slice fa n fc,.slice ga m gc]):=Lib.hid ⟨hB2,hbp0,hbr0,by omega⟩
  have HSZ0:=Lib.hid hsz0
  have HBP:=Lib.hid hbp
  have HBR:=Lib.hid hbr
  clear hB2 hbp0 hbr0 hsz0 hw0 hbp hbr
  obtain⟨y0,y1⟩:=cr2 w0 bp HS.out.hp
  simp only[gq] at y0 y1
  obtain⟨r0,r1,r2,z0,z1,z2⟩:=HS.out.rc
  go_wp2_with fail
  obtain⟨e0,e1,e2,hbw⟩:=HS.out.ret (.int .i64 22) (.int .i64 0) (.string ⟨#[]⟩)
  exact bodyPost_ret (wrong_result rfl _ _ br _ _ _ rfl e0 e1 e2) rfl ⟨rfl,hbw⟩
 have HPG:Hid (∀W,Below w.heap.size w W→PgAt W p n m fa ga xs):=Lib.hid fun W hb=>hp.rise hb
 obtain⟨f0,hf0⟩:∃f,p.funcs[0]? =some f:=⟨_,List.getElem?_eq_getElem (by rw[HN.out];omega)⟩
 obtain⟨g,off,fv0,hfa,_,_⟩:=headAll hp hf0
 have hall:∀(i:Nat) (y:Cf),p.funcs[i]? =some y→∃fv,LiesF w w.heap.size (y,fv)∧∀W,Below w.heap.size w W→HeadAt W g off i n y.name y.params y.slots y.around fv.ta y.taken.length fv.tc fv.ca y.code.length fv.cc:=fun i y hy=>by
  obtain⟨g',off',fv,e,h2,h3⟩:=headAll hp hy
  rw[hfa] at e
  injection e with e
  injection e with e1 e2
  subst e1 e2
  exact⟨fv,h2,h3⟩
 have HALL:=Lib.hid hall
 have HT:=Lib.hid ht
 subst hfa
 have HRR:=Lib.hid hR
 have c1:decide ((n:Int)<1)=false:=by simp;omega
 clear hall hf0 hR hp ht
 unfold WvPost
 by_cases h2:20000<n
 ·have hr:=HZ.out (.inr (.inl h2))
  subst hr
  have c2:decide (20000<(n:Int))=true:=by simp;omega
  clear HZ HRR h1 h2
  go_enter Tryz.func16,Tryz.ntmps16
  go_upto_region 2 with fail
  have hB2:Below w.heap.size w ((w.alloc (.cells #[.slice (some ⟨g,off,none⟩) n fc,.slice ga m gc] 27 (0,0))).alloc (.cells #[.int .i64 0,.int .i64 0,.string ⟨#[]⟩] 46 (0,0))):=((Below.refl _ _).alloc (Nat.le_refl _) _).alloc (by simp) _
  have hbp0:((w.alloc (.cells #[.slice (some ⟨g,off,none⟩) n fc,.slice ga m gc] 27 (0,0))).alloc (.cells #[.int .i64 0,.int .i64 0,.string ⟨#[]⟩] 46 (0,0))).heap[w.heap.size]? =some (.cells #[.slice (some ⟨g,off,none⟩) n fc,.slice ga m gc] 27 (0,0)):=by
   rw[heap_alloc_old _ _ (by simp)];exact heap_alloc_new _ _
  have hbr0:((w.alloc (.cells #[.slice (some ⟨g,off,none⟩) n fc,.slice ga m gc] 27 (0,0))).alloc (.cells #[.int .i64 0,.int .i64 0,.string ⟨#[]⟩] 46 (0,0))).heap[w.heap.size+1]? =some (.cells #[.int .i64 0,.int .i64 0,.string ⟨#[]⟩] 46 (0,0)):=by
   have:=heap_alloc_new (w.alloc (.cells #[.slice (some ⟨g,off,none⟩) n fc,.slice ga m gc] 27 (0,0))) (.cells #[.int .i64 0,.int .i64 0,.string ⟨#[]⟩] 46 (0,0))
   rwa [World.size_alloc] at this
  have hsz0:((w.alloc (.cells #[.slice (some ⟨g,off,none⟩) n fc,.slice ga m gc] 27 (0,0))).alloc (.cells #[.int .i64 0,.int .i64 0,.string ⟨#[]⟩] 46 (0,0))).heap.size=w.heap.size+2:=by simp
  obtain⟨w0,hw0⟩:∃w0,(w.alloc (.cells #[.slice (some ⟨g,off,none⟩) n fc,.slice ga m gc] 27 (0,0))).alloc (.cells #[.int .i64 0,.int .i64 0,.string ⟨#[]⟩] 46 (0,0))=w0:=⟨_,rfl⟩
  simp only[hw0] at hB2 hbp0 hbr0 hsz0⊢
  obtain⟨bp,hbp⟩:∃bp,w.heap.size=bp:=⟨_,rfl⟩
  obtain⟨br,hbr⟩:∃br,bp+1=br:=⟨_,rfl⟩
  simp only[hbp] at hbp0 hbr0 hsz0⊢
  simp only[hbr] at hbr0⊢
  have HS:Hid (BdS w w0 bp br #[.slice (some ⟨g,off,none⟩) n fc,.slice ga m gc]):=Lib.hid ⟨hB2,hbp0,hbr0,by omega⟩
  have HSZ0:=Lib.hid hsz0
  have HBP:=Lib.hid hbp
  have HBR:=Lib.hid hbr
  clear hB2 hbp0 hbr0 hsz0 hw0 hbp hbr
  obtain⟨y0,y1⟩:=cr2 w0 bp HS.out.hp
  simp only[gq] at y0 y1
  obtain⟨r0,r1,r2,z0,z1,z2⟩:=HS.out.rc
  go_wp2_with fail
  obtain⟨e0,e1,e2,hbw⟩:=HS.out.ret (.int .i64 22) (.int .i64 0) (.string ⟨#[]⟩)
  exact bodyPost_ret (wrong_result rfl _ _ br _ _ _ rfl e0 e1 e2) rfl ⟨rfl,hbw⟩
 have c2:decide (20000<(n:Int))=false:=by simp;omega
 by_cases h3:20000<m
 ·have hr:=HZ.out (.inr (.inr (.inl h3)))
  subst hr
  have c3:decide (20000<(m:Int))=true:=by simp;omega
  clear HZ HRR h1 h2 h3
  go_enter Tryz.func16,Tryz.ntmps16
  go_upto_region 2 with fail
  have hB2:Below w.heap.size w ((w.alloc (.cells #[.slice (some ⟨g,off,none⟩) n fc,.slice ga m gc] 27 (0,0))).alloc (.cells #[.int .i64 0,.int .i64 0,.string ⟨#[]⟩] 46 (0,0))):=((Below.refl _ _).alloc (Nat.le_refl _) _).alloc (by simp) _
  have hbp0:((w.alloc (.cells #[.slice (some ⟨g,off,none⟩) n fc,.slice ga m gc] 27 (0,0))).alloc (.cells #[.int .i64 0,.int .i64 0,.string ⟨#[]⟩] 46 (0,0))).heap[w.heap.size]? =some (.cells #[.slice (some ⟨g,off,none⟩) n fc,.slice ga m gc] 27 (0,0)):=by
   rw[heap_alloc_old _ _ (by simp)];exact heap_alloc_new _ _
  have hbr0:((w.alloc (.cells #[.slice (some ⟨g,off,none⟩) n fc,.slice ga m gc] 27 (0,0))).alloc (.cells #[.int .i64 0,.int .i64 0,.string ⟨#[]⟩] 46 (0,0))).heap[w.heap.size+1]? =some (.cells #[.int .i64 0,.int .i64 0,.string ⟨#[]⟩] 46 (0,0)):=by
   have:=heap_alloc_new (w.alloc (.cells #[.slice (some ⟨g,off,none⟩) n fc,.slice ga m gc] 27 (0,0))) (.cells #[.int .i64 0,.int .i64 0,.string ⟨#[]⟩] 46 (0,0))
   rwa [World.size_alloc] at this
  have hsz0:((w.alloc (.cells #[.slice (some ⟨g,off,none⟩) n fc,.slice ga m gc] 27 (0,0))).alloc (.cells #[.int .i64 0,.int .i64 0,.string ⟨#[]⟩] 46 (0,0))).heap.size=w.heap.size+2:=by simp
  obtain⟨w0,hw0⟩:∃w0,(w.alloc (.cells #[.slice (some ⟨g,off,none⟩) n fc,.slice ga m gc] 27 (0,0))).alloc (.cells #[.int .i64 0,.int .i64 0,.string ⟨#[]⟩] 46 (0,0))=w0:=⟨_,rfl⟩
  simp only[hw0] at hB2 hbp0 hbr0 hsz0⊢
  obtain⟨bp,hbp⟩:∃bp,w.heap.size=bp:=⟨_,rfl⟩
  obtain⟨br,hbr⟩:∃br,bp+1=br:=⟨_,rfl⟩
  simp only[hbp] at hbp0 hbr0 hsz0⊢
  simp only[hbr] at hbr0⊢
  have HS:Hid (BdS w w0 bp br #[.slice (some ⟨g,off,none⟩) n fc,.slice ga m gc]):=Lib.hid ⟨hB2,hbp0,hbr0,by omega⟩
  have HSZ0:=Lib.hid hsz0
  have HBP:=Lib.hid hbp
  have HBR:=Lib.hid hbr
  clear hB2 hbp0 hbr0 hsz0 hw0 hbp hbr
  obtain⟨y0,y1⟩:=cr2 w0 bp HS.out.hp
  simp only[gq] at y0 y1
  obtain⟨r0,r1,r2,z0,z1,z2⟩:=HS.out.rc
  go_wp2_with fail
  obtain⟨e0,e1,e2,hbw⟩:=HS.out.ret (.int .i64 22) (.int .i64 0) (.string ⟨#[]⟩)
  exact bodyPost_ret (wrong_result rfl _ _ br _ _ _ rfl e0 e1 e2) rfl ⟨rfl,hbw⟩
 have c3:decide (20000<(m:Int))=false:=by simp;omega
 go_enter Tryz.func16,Tryz.ntmps16
 go_upto_region 2 with fail
 have hB2:Below w.heap.size w ((w.alloc (.cells #[.slice (some ⟨g,off,none⟩) n fc,.slice ga m gc] 27 (0,0))).alloc (.cells #[.int .i64 0,.int .i64 0,.string ⟨#[]⟩] 46 (0,0))):=((Below.refl _ _).alloc (Nat.le_refl _) _).alloc (by simp) _
 have hbp0:((w.alloc (.cells #[.slice (some ⟨g,off,none⟩) n fc,.slice ga m gc] 27 (0,0))).alloc (.cells #[.int .i64 0,.int .i64 0,.string ⟨#[]⟩] 46 (0,0))).heap[w.heap.size]? =some (.cells #[.slice (some ⟨g,off,none⟩) n fc,.slice ga m gc] 27 (0,0)):=by
  rw[heap_alloc_old _ _ (by simp)];exact heap_alloc_new _ _
 have hbr0:((w.alloc (.cells #[.slice (some ⟨g,off,none⟩) n fc,.slice ga m gc] 27 (0,0))).alloc (.cells #[.int .i64 0,.int .i64 0,.string ⟨#[]⟩] 46 (0,0))).heap[w.heap.size+1]? =some (.cells #[.int .i64 0,.int .i64 0,.string ⟨#[]⟩] 46 (0,0)):=by
  have:=heap_alloc_new (w.alloc (.cells #[.slice (some ⟨g,off,none⟩) n fc,.slice ga m gc] 27 (0,0))) (.cells #[.int .i64 0,.int .i64 0,.string ⟨#[]⟩] 46 (0,0))
  rwa [World.size_alloc] at this
 have hsz0:((w.alloc (.cells #[.slice (some ⟨g,off,none⟩) n fc,.slice ga m gc] 27 (0,0))).alloc (.cells #[.int .i64 0,.int .i64 0,.string ⟨#[]⟩] 46 (0,0))).heap.size=w.heap.size+2:=by simp
 obtain⟨w0,hw0⟩:∃w0,(w.alloc (.cells #[.slice (some ⟨g,off,none⟩) n fc,.slice ga m gc] 27 (0,0))).alloc (.cells #[.int .i64 0,.int .i64 0,.string ⟨#[]⟩] 46 (0,0))=w0:=⟨_,rfl⟩
 simp only[hw0] at hB2 hbp0 hbr0 hsz0⊢
 obtain⟨bp,hbp⟩:∃bp,w.heap.size=bp:=⟨_,rfl⟩
 obtain⟨br,hbr⟩:∃br,bp+1=br:=⟨_,rfl⟩
 simp only[hbp] at hbp0 hbr0 hsz0⊢
 simp only[hbr] at hbr0⊢
 have HS:Hid (BdS w w0 bp br #[.slice (some ⟨g,off,none⟩) n fc,.slice ga m gc]):=Lib.hid ⟨hB2,hbp0,hbr0,by omega⟩
 have HSZ0:=Lib.hid hsz0
 have HBP:=Lib.hid hbp
 have HBR:=Lib.hid hbr
 clear hB2 hbp0 hbr0 hsz0 hw0 hbp hbr
 obtain⟨y0,y1⟩:=cr2 w0 bp HS.out.hp
 simp only[gq] at y0 y1
 obtain⟨r0,r1,r2,z0,z1,z2⟩:=HS.out.rc
 go_upto_region 6 with fail
 go_wp2_with fail
 clear c1 c2 c3 r0 r1 r2 z0 z1 z2
 go_loopw [3,5] (fun s3 s5 wr=>∃(k:Nat) (S:Int),s3= .int .i64 S∧s5= .int .i64 k∧k≤n∧0≤S∧S≤60000∧wr=w0∧Hid (manySum (p.funcs.drop k)+S=manySum p.funcs)) (fun _ s5 _=>n-(intOf s5).toNat)
 case atStart=>exact⟨0,0,rfl,rfl,Nat.zero_le _,by decide,by decide,rfl,Lib.hid (by rw[List.drop_zero,Int.add_zero])⟩
 case round=>
  obtain⟨k,S,rfl,rfl,hk,hS0,hS1,rfl,HSU⟩:=hrel
  obtain⟨r0,r1,r2,z0,z1,z2⟩:=HS.out.rc
  by_cases hlt:k<n
  ·obtain⟨o,ho⟩:∃o,p.funcs[k]? =some o:=⟨_,List.getElem?_eq_getElem (by rw[HN.out];exact hlt)⟩
   obtain⟨fv,hlf,hh⟩:=HALL.out k o ho
   obtain⟨hgl,hjn,x0,x1,x2,x3,x4,x5⟩:=hh _ HS.out.low
   have hsm:=sum_mem p.funcs o (List.mem_of_getElem? ho)
   have hs4:=HT.out.sum
   have hdr:manySum (p.funcs.drop k)=manySum (p.funcs.drop (k+1))+o.code.length:=by rw[drop_atR ho,manySum]
   have hps:=manySum_pos (p.funcs.drop (k+1))
   have hsu:=HSU.out
   obtain⟨cn,hcn⟩:∃cn,o.code.length=cn:=⟨_,rfl⟩
   rw[hcn] at x5 hsm hdr
   have hlf2:cn≤4000000000000:=by omega
   by_cases h6:60000<S+cn
   ·have hr:=HZ.out (.inr (.inr (.inr (by omega))))
    subst hr
    have b6:decide (60000<S+(cn:Int))=true:=by simp;omega
    clear HZ HRR hsu hdr hps hs4 hsm h6 hlf hh
    go_wp2_with fail
    obtain⟨e0,e1,e2,hbw⟩:=HS.out.ret (.int .i64 22) (.int .i64 0) (.string ⟨#[]⟩)
    exact bodyPost_ret (wrong_result rfl _ _ br _ _ _ rfl e0 e1 e2) rfl ⟨rfl,hbw⟩
   ·have b6:decide (60000<S+(cn:Int))=false:=by simp;omega
    have HSU2:Hid (manySum (p.funcs.drop (k+1))+(S+cn)=manySum p.funcs):=Lib.hid (by omega)
    have hS2:S+cn≤60000:=by omega
    clear hsu hdr hps hs4 hsm h6 hlf hh hcn HSU
    go_wp2_with fail
    go_roundw
    case rel=>exact⟨k+1,S+cn,rfl,by simp,by omega,by omega,hS2,by first|rfl|trivial,HSU2⟩
    case measure=>simp[intOf];omega
  ·obtain rfl:n=k:=by omega
   have hsu:=HSU.out
   rw[List.drop_of_length_le (by rw[HN.out];exact Nat.le_refl _)] at hsu
   have hsum:manySum p.funcs≤60000:=by rw[←hsu];show 0+S≤60000;omega
   have HSM:=Lib.hid hsum
   have HMF:Hid (manyC p=manyFrom p.funcs 0):=Lib.hid (many_from (by rw[HN.out,HM.out];omega) HT.out.sum)
   have HE:=Lib.hid ((right_many (p:=p)).symm.trans HRR.out)
   clear hsu hsum HSU hlt hk HZ HRR
   go_upto_region 12 with fail
   go_wp2_with fail
   clear r0 r1 r2 z0 z1 z2
   go_loopw [6] (fun s6 wr2=>∃k:Nat,s6= .int .i64 k∧k≤n∧wr2=wr∧Hid (manyFrom (p.funcs.drop k) k=manyFrom p.funcs 0)) (fun s6 _=>n-(intOf s6).toNat)
   case atStart=>exact⟨0,rfl,Nat.zero_le _,rfl,Lib.hid (by rw[List.drop_zero])⟩
   case round=>
    obtain⟨k,rfl,hk,rfl,HMA⟩:=hrel
    obtain⟨r0,r1,r2,z0,z1,z2⟩:=HS.out.rc
    by_cases hlt:k<n
    ·obtain⟨o,ho⟩:∃o,p.funcs[k]? =some o:=⟨_,List.getElem?_eq_getElem (by rw[HN.out];exact hlt)⟩
     obtain⟨fv,hlf,hh⟩:=HALL.out k o ho
     obtain⟨hgl,hjn,x0,x1,x2,x3,x4,x5⟩:=hh _ HS.out.low
     have htl:o.taken.length≤140737488351232:=(HT.out.ok.2.2.1 o (List.mem_of_getElem? ho)).2.2.2.2.1
     have hma:=HMA.out
     rw[drop_atR ho] at hma
     by_cases h6:20000<o.slots∨20000<o.taken.length
     ·rw[manyFrom_stop h6] at hma
      have hr:R=some ⟨22,k,none⟩:=by
       have:=HE.out
       rw[HMF.out,←hma] at this
       exact this.symm
      subst hr
      clear hma HE HMF HMA hlf hh ho
      by_cases h7:20000<o.slots
      ·have b6:decide (20000<o.slots)=true:=by simp;omega
       clear h6 h7
       go_wp2_with fail
       obtain⟨e0,e1,e2,hbw⟩:=HS.out.ret (.int .i64 22) (.int .i64 k) (.string ⟨#[]⟩)
       exact bodyPost_ret (wrong_result rfl _ _ br _ _ _ rfl e0 e1 e2) rfl ⟨rfl,hbw⟩
      ·have b6:decide (20000<o.slots)=false:=by simp;omega
       have b7:decide (20000<(o.taken.length:Int))=true:=by simp;omega
       clear h6 h7
       go_wp2_with fail
       obtain⟨e0,e1,e2,hbw⟩:=HS.out.ret (.int .i64 22) (.int .i64 k) (.string ⟨#[]⟩)
       exact bodyPost_ret (wrong_result rfl _ _ br _ _ _ rfl e0 e1 e2) rfl ⟨rfl,hbw⟩
     ·rw[manyFrom_go h6] at hma
      have b6:decide (20000<o.slots)=false:=by simp;omega
      have b7:decide (20000<(o.taken.length:Int))=false:=by simp;omega
      have HMA2:=Lib.hid hma
      clear hma h6 hlf hh ho HMA
      go_wp2_with fail
      go_roundw
      case rel=>exact⟨k+1,by simp,by omega,by first|rfl|trivial,HMA2⟩
      case measure=>simp[intOf];omega
    ·obtain rfl:n=k:=by omega
     have hma:=HMA.out
     rw[List.drop_of_length_le (by rw[HN.out];exact Nat.le_refl _)] at hma
     have hE2:=HE.out
     rw[HMF.out,←hma] at hE2
     have HE2:Hid ((if !globalsB [] (p.globals.map fun s=>s.data.toList) then some ⟨130,0,none⟩ else match headsFrom p.funcs 0 p.funcs [] with
      |some i=>some ⟨130,i,none⟩
      |none=>match codesFrom p 0 p.funcs with
       |some w=>some w
       |none=>fitsFrom 0 p.funcs)=R):=Lib.hid hE2
     clear hma hE2 HE HMF HMA hlt hk
     have hm:=mapNew
     go_upto_region 18 with fail
     have hA:=(Below.refl wr.heap.size wr).alloc (Nat.le_refl _) (.map #[] 0)
     have hbpl:=(Array.getElem?_eq_some_iff.1 HS.out.hp).1
     have hbrl:=(Array.getElem?_eq_some_iff.1 HS.out.hr).1
     have hS3:HdS w (wr.alloc (.map #[] 0)) bp br wr.heap.size 0 #[.slice (some ⟨g,off,none⟩) n fc,.slice ga m gc] []:=⟨HS.out.under hA,CntAt.made wr,HS.out.low.size,by omega,by omega⟩
     obtain⟨W3,hW3⟩:∃W3,wr.alloc (.map #[] 0)=W3:=⟨_,rfl⟩
     obtain⟨bm,hbm⟩:∃bm,wr.heap.size=bm:=⟨_,rfl⟩
     rw[hW3,hbm] at hS3
     simp only[hW3,hbm]
     have HS3:=Lib.hid hS3
     have HGB:Hid (globalsB [] ((p.globals.drop 0).map fun s=>s.data.toList)=globalsB [] (p.globals.map fun s=>s.data.toList)):=Lib.hid (by rw[List.drop_zero])
     clear hA hbpl hbrl hS3 hW3 hbm hm y0 y1 r0 r1 r2 z0 z1 z2
     go_wp2_with fail
     go_loopw [8] (fun s8 wr2=>∃(j k:Nat) (old:List (List UInt8)),s8= .int .i64 j∧j≤m∧k≤j∧old.length≤j∧Hid (HdS w wr2 bp br bm k #[.slice (some ⟨g,off,none⟩) n fc,.slice ga m gc] old)∧Hid (globalsB old ((p.globals.drop j).map fun s=>s.data.toList)=globalsB [] (p.globals.map fun s=>s.data.toList))) (fun s8 _=>m-(intOf s8).toNat)
     case atStart=>exact⟨0,0,[],rfl,Nat.zero_le _,Nat.le_refl _,Nat.le_refl _,HS3,HGB⟩
     case round=>
      clear HS3 HGB HS
      obtain⟨j,k,old,rfl,hj,hkj,hol,HS,HGB⟩:=hrel
      by_cases hlt:j<m
      ·obtain⟨s,hs⟩:∃s,p.globals[j]? =some s:=⟨_,List.getElem?_eq_getElem (by rw[HM.out];exact hlt)⟩
       obtain⟨gg,go_,hga,hcl⟩:=(HPG.out w (Below.refl _ _)).glob hs
       subst hga
       have hgw:gg<w.heap.size:=World.block_lt_of_cell? w ⟨gg,go_+j,none⟩ hcl
       have hss:=HT.out.ok.2.2.2 s (List.mem_of_getElem? hs)
       have hgb:=HGB.out
       rw[drop_atR hs,List.map_cons] at hgb
       have hGB2:globalsB old (s.data.toList::(p.globals.drop (j+1)).map fun s=>s.data.toList)=(nameL s.data.toList&& !old.contains s.data.toList&&globalsB (s.data.toList::old) ((p.globals.drop (j+1)).map fun s=>s.data.toList)):=rfl
       rw[hGB2] at hgb
       obtain⟨⟨t⟩⟩:=s
       have hts:t.length≤140737488351232:=hss
       dsimp only at hgb
       have HGB3:=Lib.hid hgb
       have HCL:Hid (∀W,Below w.heap.size w W→W.cell? ⟨gg,go_+j,none⟩=some (.string ⟨⟨t⟩⟩)):=Lib.hid fun W hb=>(hb.cell (p:=⟨gg,go_+j,none⟩) hgw).trans hcl
       have HNA:Hid (∀W,Calls Tryz.prog 47 #[.string ⟨⟨t⟩⟩] W fun e w'=>e= .returned (.bool (nameL t))∧Below W.heap.size W w'):=Lib.hid fun W=>r1_Name ⟨⟨t⟩⟩ W hss
       have hc1:=HCL.out wr HS.out.s.low
       have y1:=cell_of_row wr bp 1 _ _ _ HS.out.s.hp
       simp only[gq] at y1
       clear hs hcl hgw hss hgb hGB2 HGB
       go_upto_region 21 with(go_at_call 47;refine(HNA.out _).mono ?_;rintro e w2 ⟨rfl,hb⟩;have HS2:=Lib.hid (HS.out.under hb);clear hb)
       clear HS HNA hc1 y1
       have hc1:=HCL.out w2 HS2.out.s.low
       have y1:=cell_of_row w2 bp 1 _ _ _ HS2.out.s.hp
       simp only[gq] at y1
       have HBAD:Hid ((nameL t&& !old.contains t)=false→R=some ⟨130,0,none⟩):=Lib.hid fun h=>by
        have h1:=HGB3.out
        rw[h,Bool.false_and] at h1
        have h2:=HE2.out
        rw[←h1] at h2
        exact h2.symm
       cases hnm:nameL t with
       |false=>
        have hr:=HBAD.out (by rw[hnm];rfl)
        subst hr
        clear hnm HBAD HGB3 HE2
        go_wp2_with (go_at_call 48;refine(r13_no _ _ _).mono ?_;rintro e w9 ⟨rfl,hb⟩;have HS9:=Lib.hid (HS2.out.s.under hb);obtain⟨r0,r1,r2,z0,z1,z2⟩:=HS9.out.rc;clear hb)
        obtain⟨e0,e1,e2,hbw⟩:=HS9.out.ret (.int .i64 130) (.int .i64 0) (.string ⟨#[]⟩)
        exact bodyPost_ret (wrong_result rfl _ _ br _ _ _ rfl e0 e1 e2) rfl ⟨rfl,hbw⟩
       |true=>
        have hk1:=HS2.out.c.look ⟨⟨t⟩⟩ hts
        by_cases hcn:old.count t=0
        ·have e:old.count (⟨⟨t⟩⟩:ByteArray).data.toList=0:=hcn
         rw[e] at hk1
         have hk1:(Instr.lookup 71 (.map (some bm)) (.string ⟨⟨t⟩⟩) false).run Tryz.prog w2= .ok (.int .i64 0) w2:=hk1
         obtain⟨w3,hu,hs3,hg3⟩:=HS2.out.put t hts (by omega) (by omega) hcn
         have HS3:=Lib.hid hs3
         have HG4:Hid (globalsB (t::old) ((p.globals.drop (j+1)).map fun s=>s.data.toList)=globalsB [] (p.globals.map fun s=>s.data.toList)):=Lib.hid (by have h1:=HGB3.out;rw[hnm,count_zero_not hcn] at h1;exact h1)
         clear hs3 hg3 hcn e hnm HBAD HGB3
         go_wp2_with fail
         go_roundw
         case rel=>exact⟨j+1,k+1,t::old,by simp,by omega,by omega,by rw[List.length_cons];omega,HS3,HG4⟩
         case measure=>simp[intOf];omega
        ·obtain⟨cc,hcc⟩:∃cc,old.count t=cc:=⟨_,rfl⟩
         have hr:=HBAD.out (by
          have h1:t∈old:=List.count_pos_iff.1 (by omega)
          have h2:old.contains t=true:=List.contains_iff_mem.2 h1
          rw[h2,hnm];rfl)
         subst hr
         have hcp:¬cc=0:=by rw[←hcc];exact hcn
         have hk2:(Instr.lookup 71 (.map (some bm)) (.string ⟨⟨t⟩⟩) false).run Tryz.prog w2= .ok (.int .i64 (cc:Int)) w2:=by rw[←hcc];exact hk1
         clear hk1
         have b9:decide (0<(cc:Int))=true:=by simp;omega
         have b9n:decide (0<cc)=true:=by simp;omega
         clear hcc hcn hcp hnm HBAD HGB3 HE2
         go_wp2_with (go_at_call 48;refine(r13_no _ _ _).mono ?_;rintro e w9 ⟨rfl,hb⟩;have HS9:=Lib.hid (HS2.out.s.under hb);obtain⟨r0,r1,r2,z0,z1,z2⟩:=HS9.out.rc;clear hb)
         obtain⟨e0,e1,e2,hbw⟩:=HS9.out.ret (.int .i64 130) (.int .i64 0) (.string ⟨#[]⟩)
         exact bodyPost_ret (wrong_result rfl _ _ br _ _ _ rfl e0 e1 e2) rfl ⟨rfl,hbw⟩
      ·obtain rfl:m=j:=by omega
       have hgb:=HGB.out
       rw[List.drop_of_length_le (by rw[HM.out];exact Nat.le_refl _)] at hgb
       have hgb:globalsB [] (p.globals.map fun s=>s.data.toList)=true:=hgb.symm
       have hE3:=HE2.out
       rw[hgb] at hE3
       have HE3:Hid ((match headsFrom p.funcs 0 p.funcs [] with
        |some i=>some ⟨130,i,none⟩
        |none=>match codesFrom p 0 p.funcs with
         |some w=>some w
         |none=>fitsFrom 0 p.funcs)=R):=Lib.hid hE3
       have HS5:=Lib.hid HS.out.s
       obtain⟨y0,y1⟩:=cr2 wr bp HS5.out.hp
       simp only[gq] at y0 y1
       clear hgb hE3 HE2 HGB HS hlt hj hkj hol
       have HHD:Hid (∀W,Below w.heap.size w W→Calls Tryz.prog 49 #[.agg #[.slice (some ⟨g,off,none⟩) n fc,.slice ga m gc]] W fun e w'=>e= .returned (.agg #[.int .i64 (wA (headsC (headsFrom p.funcs 0 p.funcs []))),.int .i64 (wB (headsC (headsFrom p.funcs 0 p.funcs []))),.string (wC (headsC (headsFrom p.funcs 0 p.funcs [])))])∧Below W.heap.size W w'):=Lib.hid fun W hb=>(r13_heads (HPG.out W hb) HT.out.ok HT.out.names (by omega) (by omega)).mono fun e w' h=>⟨h.1.trans (congrArg Ending.returned (wrV_eq _)),h.2⟩
       obtain⟨A,hA⟩:∃A,wA (headsC (headsFrom p.funcs 0 p.funcs []))=A:=⟨_,rfl⟩
       obtain⟨B,hB⟩:∃B,wB (headsC (headsFrom p.funcs 0 p.funcs []))=B:=⟨_,rfl⟩
       obtain⟨C,hC⟩:∃C,wC (headsC (headsFrom p.funcs 0 p.funcs []))=C:=⟨_,rfl⟩
       rw[hA,hB,hC] at HHD
       have HAA:=Lib.hid hA
       have HBB:=Lib.hid hB
       have HCC:=Lib.hid hC
       clear hA hB hC
       go_upto_region 24 with fail
       go_cut [10] (fun v10 wc=>∃wb,v10= .pointer (some ⟨wb,0,none⟩)∧Hid (BxS w wc bp br wb #[.slice (some ⟨g,off,none⟩) n fc,.slice ga m gc] A B C))
       case first=>
        go_wp2_with (go_at_call 49;refine(HHD.out _ HS5.out.low).mono ?_;rintro e w5 ⟨rfl,hb5⟩;have HS7:=Lib.hid (HS5.out.under hb5);clear hb5)
        go_meet
        case rel=>exact⟨_,rfl,Lib.hid (BxS.made HS7.out A B C)⟩
       case rest=>
        obtain⟨wb,rfl,HX⟩:=hcut
        clear y0 y1 HS5
        have ha:=HAA.out
        have hb:=HBB.out
        have hc:=HCC.out
        clear HAA HBB HCC HHD
        cases hhd:headsFrom p.funcs 0 p.funcs [] with
        |some i=>
         rw[hhd] at ha hb hc
         obtain rfl:(130:Int)=A:=ha
         obtain rfl:(i:Int)=B:=hb
         obtain rfl:(⟨#[]⟩:ByteArray)=C:=hc
         have hr:R=some ⟨130,i,none⟩:=by
          have:=HE3.out
          rw[hhd] at this
          exact this.symm
         subst hr
         clear hhd HE3
         obtain⟨v0,v1,v2,q0,q1,q2⟩:=HX.out.fr
         obtain⟨r0,r1,r2,z0,z1,z2⟩:=HX.out.bd.rc
         go_wp2_with fail
         obtain⟨e0,e1,e2,hbw⟩:=HX.out.bd.ret (.int .i64 130) (.int .i64 i) (.string ⟨#[]⟩)
         exact bodyPost_ret (wrong_result rfl _ _ br _ _ _ rfl e0 e1 e2) rfl ⟨rfl,hbw⟩
        |none=>
         rw[hhd] at ha hb hc
         obtain rfl:(0:Int)=A:=ha
         obtain rfl:(0:Int)=B:=hb
         obtain rfl:(⟨#[]⟩:ByteArray)=C:=hc
         have hE4:=HE3.out
         rw[hhd] at hE4
         have HE4:Hid ((match codesFrom p 0 p.funcs with
          |some w=>some w
          |none=>fitsFrom 0 p.funcs)=R):=Lib.hid hE4
         clear hhd HE3 hE4
         obtain⟨y0,y1⟩:=HX.out.pcs
         obtain⟨v0,v1,v2,q0,q1,q2⟩:=HX.out.fr
         go_upto_region 28 with fail
         go_wp2_with fail
         go_loopw [11] (fun s11 wr2=>∃k:Nat,s11= .int .i64 k∧k≤n∧Hid (BxS w wr2 bp br wb #[.slice (some ⟨g,off,none⟩) n fc,.slice ga m gc] 0 0 ⟨#[]⟩)∧Hid (codesFrom p k (p.funcs.drop k)=codesFrom p 0 p.funcs)) (fun s11 _=>n-(intOf s11).toNat)
         case atStart=>exact⟨0,rfl,Nat.zero_le _,HX,Lib.hid (by rw[List.drop_zero])⟩
         case round=>
          clear HX y0 y1 v0 v1 v2 q0 q1 q2
          obtain⟨k,rfl,hk,HX,HCF⟩:=hrel
          obtain⟨y0,y1⟩:=HX.out.pcs
          by_cases hlt:k<n
          ·obtain⟨o,ho⟩:∃o,p.funcs[k]? =some o:=⟨_,List.getElem?_eq_getElem (by rw[HN.out];exact hlt)⟩
           have hom:=List.mem_of_getElem? ho
           have hcl:o.code.length≤60000:=by have:=sum_mem p.funcs o hom;have:=HSM.out;omega
           have HBD:Hid (∀W,Below w.heap.size w W→Calls Tryz.prog 50 #[.agg #[.slice (some ⟨g,off,none⟩) n fc,.slice ga m gc],.int .i64 k] W (WvPost (bodyC p k o) W)):=Lib.hid fun W hb=>r13_body (HPG.out W hb) ho (HT.out.texts o hom) (by omega)
           have hcf:=HCF.out
           rw[drop_atR ho,codes_body] at hcf
           clear ho hom hcl HCF
           cases hbc:bodyC p k o with
           |some c=>
            rw[hbc] at hcf
            obtain⟨cc,ca,ci⟩:=c
            obtain rfl:cc=130:=body_code hbc
            have hr:R=some ⟨130,ca,ci⟩:=by
             have:=HE4.out
             rw[←hcf] at this
             exact this.symm
            subst hr
            have HB2:Hid (∀W,Below w.heap.size w W→Calls Tryz.prog 50 #[.agg #[.slice (some ⟨g,off,none⟩) n fc,.slice ga m gc],.int .i64 k] W fun e w'=>e= .returned (.agg #[.int .i64 130,.int .i64 ca,.string (insName ci)])∧Below W.heap.size W w'):=Lib.hid fun W hb=>by have:=HBD.out W hb;rw[hbc] at this;exact this
            clear hbc hcf HBD HE4
            go_upto_region 31 with(go_at_call 50;refine(HB2.out _ HX.out.bd.low).mono ?_;rintro e w5 ⟨rfl,hb5⟩;have HX5:=Lib.hid (HX.out.under hb5);clear hb5;obtain⟨v0,v1,v2,q0,q1,q2⟩:=HX5.out.fr)
            have hX6:=HX5.out.put 130 ca (insName ci)
            obtain⟨W6,hW6⟩:∃W6,((w5.setCell ⟨wb,0,none⟩ (.int .i64 130)).setCell ⟨wb,1,none⟩ (.int .i64 ca)).setCell ⟨wb,2,none⟩ (.string (insName ci))=W6:=⟨_,rfl⟩
            rw[hW6] at hX6
            simp only[hW6]
            have HX6:=Lib.hid hX6
            clear hX6 hW6 HX HX5 v0 v1 v2 q0 q1 q2 y0 y1
            obtain⟨v0,v1,v2,q0,q1,q2⟩:=HX6.out.fr
            obtain⟨y0,y1⟩:=HX6.out.pcs
            obtain⟨r0,r1,r2,z0,z1,z2⟩:=HX6.out.bd.rc
            go_wp2_with fail
            obtain⟨e0,e1,e2,hbw⟩:=HX6.out.bd.ret (.int .i64 130) (.int .i64 ca) (.string (insName ci))
            exact bodyPost_ret (wrong_result rfl _ _ br _ _ _ rfl e0 e1 e2) rfl ⟨rfl,hbw⟩
           |none=>
            rw[hbc] at hcf
            have HCF2:Hid (codesFrom p (k+1) (p.funcs.drop (k+1))=codesFrom p 0 p.funcs):=Lib.hid hcf
            have HB2:Hid (∀W,Below w.heap.size w W→Calls Tryz.prog 50 #[.agg #[.slice (some ⟨g,off,none⟩) n fc,.slice ga m gc],.int .i64 k] W fun e w'=>e= .returned (.agg #[.int .i64 0,.int .i64 0,.string ⟨#[]⟩])∧Below W.heap.size W w'):=Lib.hid fun W hb=>by have:=HBD.out W hb;rw[hbc] at this;exact this
            clear hbc hcf HBD
            go_upto_region 31 with(go_at_call 50;refine(HB2.out _ HX.out.bd.low).mono ?_;rintro e w5 ⟨rfl,hb5⟩;have HX5:=Lib.hid (HX.out.under hb5);clear hb5;obtain⟨v0,v1,v2,q0,q1,q2⟩:=HX5.out.fr)
            have hX6:=HX5.out.put 0 0 ⟨#[]⟩
            obtain⟨W6,hW6⟩:∃W6,((w5.setCell ⟨wb,0,none⟩ (.int .i64 0)).setCell ⟨wb,1,none⟩ (.int .i64 0)).setCell ⟨wb,2,none⟩ (.string ⟨#[]⟩)=W6:=⟨_,rfl⟩
            rw[hW6] at hX6
            simp only[hW6]
            have HX6:=Lib.hid hX6
            clear hX6 hW6 HX HX5 v0 v1 v2 q0 q1 q2 y0 y1
            obtain⟨v0,v1,v2,q0,q1,q2⟩:=HX6.out.fr
            obtain⟨y0,y1⟩:=HX6.out.pcs
            go_wp2_with fail
            go_roundw
            case rel=>exact⟨k+1,by simp,by omega,HX6,HCF2⟩
            case measure=>simp[intOf];omega
          ·obtain rfl:n=k:=by omega
           have hcf:=HCF.out
           rw[List.drop_of_length_le (by rw[HN.out];exact Nat.le_refl _)] at hcf
           have hcf:codesFrom p 0 p.funcs=none:=hcf.symm
           have hE5:=HE4.out
           rw[hcf] at hE5
           have HE5:Hid (fitsFrom 0 p.funcs=R):=Lib.hid hE5
           have HCD:=Lib.hid hcf
           clear hcf hE5 HE4 HCF hlt hk
           go_upto_region 34 with fail
           go_wp2_with fail
           go_loopw [12] (fun s12 wr2=>∃k:Nat,s12= .int .i64 k∧k≤n∧Hid (BxS w wr2 bp br wb #[.slice (some ⟨g,off,none⟩) n fc,.slice ga m gc] 0 0 ⟨#[]⟩)∧Hid (fitsFrom k (p.funcs.drop k)=R)) (fun s12 _=>n-(intOf s12).toNat)
           case atStart=>exact⟨0,rfl,Nat.zero_le _,HX,Lib.hid (by rw[List.drop_zero];exact HE5.out)⟩
           case round=>
            clear HX y0 y1
            obtain⟨k,rfl,hk,HX,HFF⟩:=hrel
            obtain⟨y0,y1⟩:=HX.out.pcs
            by_cases hlt:k<n
            ·obtain⟨o,ho⟩:∃o,p.funcs[k]? =some o:=⟨_,List.getElem?_eq_getElem (by rw[HN.out];exact hlt)⟩
             have hom:=List.mem_of_getElem? ho
             have hcl:o.code.length≤60000:=by have:=sum_mem p.funcs o hom;have:=HSM.out;omega
             have HBD:Hid (∀W,Below w.heap.size w W→Calls Tryz.prog 51 #[.agg #[.slice (some ⟨g,off,none⟩) n fc,.slice ga m gc],.int .i64 k] W (WvPost (fitC k (fitsP o.code)) W)):=Lib.hid fun W hb=>r13_fits (HPG.out W hb) ho (codes_fit HCD.out ho).1 hcl (codes_in HCD.out ho) (codes_fit HCD.out ho).2.1
             have hff:=HFF.out
             rw[drop_atR ho,fits_one] at hff
             clear ho hom hcl HFF
             cases hbc:fitC k (fitsP o.code) with
             |some c=>
              rw[hbc] at hff
              obtain⟨cc,ca,ci⟩:=c
              obtain rfl:cc=130:=fit_code hbc
              have hr:R=some ⟨130,ca,ci⟩:=hff.symm
              subst hr
              have HB2:Hid (∀W,Below w.heap.size w W→Calls Tryz.prog 51 #[.agg #[.slice (some ⟨g,off,none⟩) n fc,.slice ga m gc],.int .i64 k] W fun e w'=>e= .returned (.agg #[.int .i64 130,.int .i64 ca,.string (insName ci)])∧Below W.heap.size W w'):=Lib.hid fun W hb=>by have:=HBD.out W hb;rw[hbc] at this;exact this
              clear hbc hff HBD
              go_upto_region 37 with(go_at_call 51;refine(HB2.out _ HX.out.bd.low).mono ?_;rintro e w5 ⟨rfl,hb5⟩;have HX5:=Lib.hid (HX.out.under hb5);clear hb5;obtain⟨v0,v1,v2,q0,q1,q2⟩:=HX5.out.fr)
              have hX6:=HX5.out.put 130 ca (insName ci)
              obtain⟨W6,hW6⟩:∃W6,((w5.setCell ⟨wb,0,none⟩ (.int .i64 130)).setCell ⟨wb,1,none⟩ (.int .i64 ca)).setCell ⟨wb,2,none⟩ (.string (insName ci))=W6:=⟨_,rfl⟩
              rw[hW6] at hX6
              simp only[hW6]
              have HX6:=Lib.hid hX6
              clear hX6 hW6 HX HX5 v0 v1 v2 q0 q1 q2 y0 y1
              obtain⟨v0,v1,v2,q0,q1,q2⟩:=HX6.out.fr
              obtain⟨y0,y1⟩:=HX6.out.pcs
              obtain⟨r0,r1,r2,z0,z1,z2⟩:=HX6.out.bd.rc
              go_wp2_with fail
              obtain⟨e0,e1,e2,hbw⟩:=HX6.out.bd.ret (.int .i64 130) (.int .i64 ca) (.string (insName ci))
              exact bodyPost_ret (wrong_result rfl _ _ br _ _ _ rfl e0 e1 e2) rfl ⟨rfl,hbw⟩
             |none=>
              rw[hbc] at hff
              have HFF2:Hid (fitsFrom (k+1) (p.funcs.drop (k+1))=R):=Lib.hid hff
              have HB2:Hid (∀W,Below w.heap.size w W→Calls Tryz.prog 51 #[.agg #[.slice (some ⟨g,off,none⟩) n fc,.slice ga m gc],.int .i64 k] W fun e w'=>e= .returned (.agg #[.int .i64 0,.int .i64 0,.string ⟨#[]⟩])∧Below W.heap.size W w'):=Lib.hid fun W hb=>by have:=HBD.out W hb;rw[hbc] at this;exact this
              clear hbc hff HBD
              go_upto_region 37 with(go_at_call 51;refine(HB2.out _ HX.out.bd.low).mono ?_;rintro e w5 ⟨rfl,hb5⟩;have HX5:=Lib.hid (HX.out.under hb5);clear hb5;obtain⟨v0,v1,v2,q0,q1,q2⟩:=HX5.out.fr)
              have hX6:=HX5.out.put 0 0 ⟨#[]⟩
              obtain⟨W6,hW6⟩:∃W6,((w5.setCell ⟨wb,0,none⟩ (.int .i64 0)).setCell ⟨wb,1,none⟩ (.int .i64 0)).setCell ⟨wb,2,none⟩ (.string ⟨#[]⟩)=W6:=⟨_,rfl⟩
              rw[hW6] at hX6
              simp only[hW6]
              have HX6:=Lib.hid hX6
              clear hX6 hW6 HX HX5 v0 v1 v2 q0 q1 q2 y0 y1
              obtain⟨v0,v1,v2,q0,q1,q2⟩:=HX6.out.fr
              obtain⟨y0,y1⟩:=HX6.out.pcs
              go_wp2_with fail
              go_roundw
              case rel=>exact⟨k+1,by simp,by omega,HX6,HFF2⟩
              case measure=>simp[intOf];omega
            ·obtain rfl:n=k:=by omega
             have hff:=HFF.out
             rw[List.drop_of_length_le (by rw[HN.out];exact Nat.le_refl _)] at hff
             have hr:R=none:=hff.symm
             subst hr
             clear hff HFF HE5
             obtain⟨r0,r1,r2,z0,z1,z2⟩:=HX.out.bd.rc
             go_wp2_with fail
             obtain⟨e0,e1,e2,hbw⟩:=HX.out.bd.ret (.int .i64 0) (.int .i64 0) (.string ⟨#[]⟩)
             exact bodyPost_ret (wrong_result rfl _ _ br _ _ _ rfl e0 e1 e2) rfl ⟨rfl,hbw⟩
end Go.Proofs.YtagnicbknbmccaaGreatDoor
