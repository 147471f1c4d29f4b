/- CodeBack: for any raw numbers the law answers true (the walk). CodeSpoilt: a made program in a box of which one thing is turned; what the program answers then. CodeSpoilt: for any raw numbers the law answers true (the walk). -/
import Derived.Test.YtagnicbknbmccaaGreatDoorMMkH
import Derived.Test.YtagnicbknbmccaaGreatDoorMMkL
import Derived.Test.YtagnicbknbmccaaGreatDoorMLnD
import Derived.Test.YtagnicbknbmccaaGreatDoorMCyD
import Derived.Test.YtagnicbknbmccaaGreatDoorMCwF
import Derived.Test.YtagnicbknbmccaaGreatDoorSqC
set_option maxRecDepth 100000
set_option maxHeartbeats 8000000
namespace Go.Proofs.YtagnicbknbmccaaGreatDoor
open Go.RowKit
structure PrAt (W:World) (b:Nat) (p:Cp) (n m fc gc:Nat) (fa ga:Option Addr) (xs:List (Cf×Fv)):Prop where
 box:W.heap[b]? =some (.cells #[.slice fa n fc,.slice ga m gc] 27 (0,0))
 pg:PgAt W p n m fa ga xs
 c1:n≤fc
 c2:m≤gc
section
variable {W W':World} {b:Nat} {p q:Cp} {n m fc gc n' m' fc' gc':Nat} {fa ga fa' ga':Option Addr} {xs ys:List (Cf×Fv)} {raw:List Int}
theorem PrAt.under (h:PrAt W b p n m fc gc fa ga xs) (hb:Below W.heap.size W W'):PrAt W' b p n m fc gc fa ga xs:=
 ⟨(hb.block b (Array.getElem?_eq_some_iff.1 h.box).1).trans h.box,h.pg.rise hb,h.c1,h.c2⟩
theorem PrAt.new (h:PgAt W p n m fa ga xs) (h1:n≤fc) (h2:m≤gc):PrAt (W.alloc (.cells #[.slice fa n fc,.slice ga m gc] 27 (0,0))) W.heap.size p n m fc gc fa ga xs:=
 ⟨heap_alloc_new _ _,h.rise ((Below.refl _ _).alloc (Nat.le_refl _) _),h1,h2⟩
theorem PrAt.cs (h:PrAt W b p n m fc gc fa ga xs):W.cell? ⟨b,0,none⟩=some (.slice fa n fc)∧W.cell? ⟨b,1,none⟩=some (.slice ga m gc):=
 ⟨(cell_of_row W b 0 _ _ _ h.box).trans rfl,(cell_of_row W b 1 _ _ _ h.box).trans rfl⟩
theorem PrAt.right (h:PrAt W b (madeC raw) n m fc gc fa ga xs) (hG:Gc W):Calls Tryz.prog 11 #[.agg #[.slice fa n fc,.slice ga m gc]] W fun e W'=>e= .returned .nilIface∧Below W.heap.size W W':=
 (right_all h.pg h.c1 h.c2 (made_tame raw).1 hG).mono fun e W' hp=>by
  rw[made_right] at hp
  exact⟨hp.2,hp.1⟩
theorem PrAt.enc (h:PrAt W b (madeC raw) n m fc gc fa ga xs) (hG:Gc W):Calls Tryz.prog 12 #[.agg #[.slice fa n fc,.slice ga m gc]] W fun e W'=>e= .returned (.tuple #[.string ⟨⟨encodeB (madeC raw)⟩⟩,.nilIface])∧Below W.heap.size W W':=
 (encode_any h.pg h.c1 h.c2 (made_tame raw).1 hG fun _=>by have:=made_bytes_len raw;omega).mono fun e W' hp=>by
  obtain⟨h1,h2⟩:=hp
  rw[made_right] at h2
  exact⟨h2,h1⟩
theorem PrAt.lines (h:PrAt W b (madeC raw) n m fc gc fa ga xs) (hG:Gc W):Calls Tryz.prog 13 #[.agg #[.slice fa n fc,.slice ga m gc]] W fun e W'=>e= .returned (.tuple #[.string ⟨⟨listL (madeC raw)⟩⟩,.nilIface])∧Below W.heap.size W W':=
 (list_any h.pg h.c1 h.c2 (made_tame raw).1 hG (fun _=>by have:=made_lines_len raw;omega) (made_tame raw).2).mono fun e W' hp=>by
  obtain⟨h1,h2⟩:=hp
  rw[made_right] at h2
  exact⟨h2,h1⟩
theorem PrAt.same {b':Nat} (h:PrAt W b p n m fc gc fa ga xs) (h':PrAt W b' q n' m' fc' gc' fa' ga' ys) (hp:CpOk p):Calls Tryz.prog 30 #[.agg #[.slice fa n fc,.slice ga m gc],.agg #[.slice fa' n' fc',.slice ga' m' gc']] W fun e W'=>e= .returned (.bool (sameC p q))∧Below W.heap.size W W':=
 sameC_any (h.pg.lies h.c1 h.c2) (h'.pg.lies h'.c1 h'.c2) hp
end
theorem RowIs.up {w W:World} {A:Option Addr} {l:List Value} (h:RowIs w w.heap.size A l) (hb:Below w.heap.size w W):RowIs W W.heap.size A l:=by
 rcases h with e|⟨g,o,e,hg,hc⟩
 ·exact .inl e
 ·exact .inr ⟨g,o,e,Nat.lt_of_lt_of_le hg hb.size,fun j v hj=>(World.cell?_of_block (a:=⟨g,o+j,none⟩) (hb.block g hg)).trans (hc j v hj)⟩
structure SpAt (w W:World) (pb n m fc gc:Nat) (fa ga:Option Addr) (xs:List (Cf×Fv)) (gs:List ByteArray):Prop where
 low:Below w.heap.size w W
 box:W.heap[pb]? =some (.cells #[.slice fa n fc,.slice ga m gc] 27 (0,0))
 own:PgOwn W w.heap.size (.slice fa n fc) (.slice ga m gc) xs gs
 ap:FnsApart xs
 hn:xs.length=n
 hm:gs.length=m
 c1:n≤fc
 c2:m≤gc
 nb:∀g,PgBlk (.slice fa n fc) (.slice ga m gc) xs g→g≠pb
 plo:w.heap.size≤pb
section
variable {w W W':World} {pb n m fc gc f:Nat} {fa ga:Option Addr} {xs:List (Cf×Fv)} {gs:List ByteArray} {x:Cf×Fv}
theorem SpAt.plt (h:SpAt w W pb n m fc gc fa ga xs gs):pb<W.heap.size:=(Array.getElem?_eq_some_iff.1 h.box).1
theorem SpAt.under (h:SpAt w W pb n m fc gc fa ga xs gs) (hb:Below W.heap.size W W'):SpAt w W' pb n m fc gc fa ga xs gs:=
 ⟨h.low.trans (hb.mono h.low.size),(hb.block pb h.plt).trans h.box,h.own.keepB fun g hg=>hb.block g (h.own.blk hg).2,h.ap,h.hn,h.hm,h.c1,h.c2,h.nb,h.plo⟩
theorem SpAt.new {vf vg:Value} (hb:Below w.heap.size w W) (h:PgOwn W w.heap.size vf vg xs gs) (ap:FnsApart xs):∃n m fc gc fa ga,vf= .slice fa n fc∧vg= .slice ga m gc∧SpAt w (W.alloc (.cells #[.slice fa n fc,.slice ga m gc] 27 (0,0))) W.heap.size n m fc gc fa ga xs gs:=by
 obtain⟨n,m,fa,fc,ga,gc,rfl,rfl,hn,hm,hpg⟩:=h.pg
 refine⟨n,m,fc,gc,fa,ga,rfl,rfl,hb.alloc hb.size _,heap_alloc_new _ _,h.keepB fun g hg=>heap_alloc_old _ _ (h.blk hg).2,ap,by simpa using hpg.fn,hpg.gn,hn,hm,fun g hg=> ?_,hb.size⟩
 have:=(h.blk hg).2
 omega
theorem SpAt.cs (h:SpAt w W pb n m fc gc fa ga xs gs):W.cell? ⟨pb,0,none⟩=some (.slice fa n fc)∧W.cell? ⟨pb,1,none⟩=some (.slice ga m gc)∧W.frozen? ⟨pb,1,none⟩=false:=
 ⟨(cell_of_row W pb 0 _ _ _ h.box).trans rfl,(cell_of_row W pb 1 _ _ _ h.box).trans rfl,frozen_of_row W pb 1 _ _ h.box⟩
theorem SpAt.fcs (h:SpAt w W pb n m fc gc fa ga xs gs) (hx:xs[f]? =some x):∃gf cs,fa=some ⟨gf,0,none⟩∧gf≠pb∧w.heap.size≤gf∧W.heap[gf]? =some (.cells cs 33 (0,0))∧
  (∀j v,(xs.flatMap fnCells)[j]? =some v→W.cell? ⟨gf,j,none⟩=some v)∧(∀g,((Value.slice ga m gc).ownBlock=some g∨∃y∈xs,FnBlk y g)→g≠gf)∧
  W.cell? ⟨gf,f*6+1,none⟩=some (.int .i64 x.1.params)∧W.cell? ⟨gf,f*6+5,none⟩=some (.slice x.2.ca x.1.code.length x.2.cc):=by
 obtain⟨gf,cs,e1,e2,e3,e4,e5⟩:=func_block h.own hx
 have hc:∀k,k<6→(xs.flatMap fnCells)[f*6+k]? =(fnCells x)[k]? :=fun k hk=>flat_at fn_len xs f x hx k hk
 exact⟨gf,cs,e1,h.nb gf (.inl (by rw[e1];rfl)),e2,e3,e4,e5,e4 _ _ ((hc 1 (by omega)).trans rfl),e4 _ _ ((hc 5 (by omega)).trans rfl)⟩
theorem flat_in {l:List Ci} {k:Nat} {c y:Ci} (hc:l[k]? =some c) (j:Nat) (v:Value) (hj:j<5) (e:insCells y=(insCells c).set j v):(l.set k y).flatMap insCells=(l.flatMap insCells).set (k*5+j) v:=flat_set ins_len l k c y j v hc hj e
theorem mod_set {α:Type} {l:List α} {k:Nat} {c:α} (g:α→α) (h:l[k]? =some c):l.modify k g=l.set k (g c):=by
 apply List.ext_getElem?
 intro j
 rw[modify_at,List.getElem?_set]
 by_cases e:k=j
 ·subst e
  rw[if_pos rfl,if_pos rfl,h,if_pos (List.getElem?_eq_some_iff.1 h).1]
  rfl
 ·rw[if_neg e,if_neg e]
theorem spoil_fn {p:Cp} {f' w' k:Nat} {y:Cf} (hy:p.funcs[f']? =some y) (h5:w'≠5):spoilC p f' w' k=⟨p.funcs.set f' (spoilF w' k y),p.globals⟩:=by
 unfold spoilC
 rw[if_neg h5,mod_set _ hy]
theorem spoil_gl {p:Cp} {f' k:Nat}:spoilC p f' 5 k=⟨p.funcs,p.globals++ [⟨#[99]⟩,⟨#[99]⟩]⟩:=by
 unfold spoilC
 rw[if_pos rfl]
 congr 1
 apply List.ext_getElem?
 intro j
 rw[modify_at]
 split
 ·cases p.funcs[j]? <;>rfl
 ·rfl
theorem SpAt.ins (h:SpAt w W pb n m fc gc fa ga xs gs) (hx:xs[f]? =some x) {c:List Ci} (hl:c.length=x.1.code.length) (hc0:x.1.code≠ []) {cb:Nat} (hca:x.2.ca=some ⟨cb,0,none⟩) (hsz:W'.heap.size=W.heap.size)
  (hk:∀g,g≠cb→W'.heap[g]? =W.heap[g]?) (hrow:∀j v,(c.flatMap insCells)[j]? =some v→W'.cell? ⟨cb,j,none⟩=some v):
  PrAt W' pb ⟨(xs.map Prod.fst).set f {x.1 with code:=c},gs⟩ n m fc gc fa ga (xs.set f ({x.1 with code:=c},x.2)):=by
 obtain⟨cb',ccs,e1,e2,e3,e4,e5⟩:=code_block h.own h.ap hx hc0
 obtain rfl:cb'=cb:=by rw[hca] at e1;injection e1 with e1;injection e1 with e1;exact e1.symm
 have hpb:pb≠cb':=fun e=>h.nb cb' (.inr (.inr ⟨x,List.mem_of_getElem? hx,.inr (by rw[hca];rfl)⟩)) e.symm
 exact⟨(hk pb hpb).trans h.box,turn_code h.own h.ap h.hn h.hm hx hca (by omega) e5 hk hl (Array.getElem?_eq_some_iff.1 e3).1 hrow,h.c1,h.c2⟩
theorem SpAt.one (h:SpAt w W pb n m fc gc fa ga xs gs) (hx:xs[f]? =some x) {k:Nat} {c y:Ci} (hc:x.1.code[k]? =some c):∃cb,x.2.ca=some ⟨cb,0,none⟩∧w.heap.size≤cb∧W.frozen? ⟨cb,k*5,none⟩=false∧W.frozen? ⟨cb,k*5+4,none⟩=false∧(∃u,W.cell? ⟨cb,k*5,none⟩=some u)∧(∃u,W.cell? ⟨cb,k*5+4,none⟩=some u)∧
  ∀j v,j<5→insCells y=(insCells c).set j v→PrAt (W.setCell ⟨cb,k*5+j,none⟩ v) pb ⟨(xs.map Prod.fst).set f {x.1 with code:=x.1.code.set k y},gs⟩ n m fc gc fa ga (xs.set f ({x.1 with code:=x.1.code.set k y},x.2)):=by
 have hc0:x.1.code≠ []:=fun e=>by rw[e] at hc;simp at hc
 obtain⟨cb,ccs,e1,e2,e3,e4,e5⟩:=code_block h.own h.ap hx hc0
 have hat:∀j,j<5→(x.1.code.flatMap insCells)[k*5+j]? =(insCells c)[j]? :=fun j hj=>flat_at ins_len x.1.code k c hc j hj
 refine⟨cb,e1,e2,frozen_of_row W cb _ _ _ e3,frozen_of_row W cb _ _ _ e3,⟨_,e4 _ _ ((hat 0 (by omega)).trans rfl)⟩,⟨_,e4 _ _ ((hat 4 (by omega)).trans rfl)⟩,fun j v hj he=> ?_⟩
 refine h.ins hx (c:=x.1.code.set k y) (by simp) hc0 e1 (World.size_setCell _ _ _) (fun g hg=>Below.heap_setCell _ _ _ _ hg) fun i u hi=> ?_
 rw[flat_in hc j v hj he] at hi
 exact row_set e3 e4 _ _ i u hi
theorem flat_five {l:List Ci} {k:Nat} {c:Ci} (y:Ci) (hc:l[k]? =some c):(l.set k y).flatMap insCells=(((((l.flatMap insCells).set (k*5) (.int .i64 y.op)).set (k*5+1) (.int .i64 y.a)).set (k*5+2) (.int .i64 y.b)).set (k*5+3) (.string y.text)).set (k*5+4) (.int .i64 y.at_):=by
 have hk:=(List.getElem?_eq_some_iff.1 hc).1
 have hs:∀z:Ci,(l.set k z)[k]? =some z:=fun z=>by rw[List.getElem?_set,if_pos rfl,if_pos hk]
 have e0:=flat_in (y:=⟨y.op,c.a,c.b,c.text,c.at_⟩) hc 0 (.int .i64 y.op) (by omega) rfl
 have e1:=flat_in (y:=⟨y.op,y.a,c.b,c.text,c.at_⟩) (hs ⟨y.op,c.a,c.b,c.text,c.at_⟩) 1 (.int .i64 y.a) (by omega) rfl
 have e2:=flat_in (y:=⟨y.op,y.a,y.b,c.text,c.at_⟩) (hs ⟨y.op,y.a,c.b,c.text,c.at_⟩) 2 (.int .i64 y.b) (by omega) rfl
 have e3:=flat_in (y:=⟨y.op,y.a,y.b,y.text,c.at_⟩) (hs ⟨y.op,y.a,y.b,c.text,c.at_⟩) 3 (.string y.text) (by omega) rfl
 have e4:=flat_in (y:=y) (hs ⟨y.op,y.a,y.b,y.text,c.at_⟩) 4 (.int .i64 y.at_) (by omega) rfl
 rw[List.set_set] at e1 e2 e3 e4
 rw[e4,e3,e2,e1,e0]
 rfl
theorem row_setB {W:World} {g:Nat} {cs:Array Value} {t:TypeId} {xs:List Value} (i:Nat) (u:Value) (h:W.heap[g]? =some (.cells cs t (0,0))∧∀j v,xs[j]? =some v→W.cell? ⟨g,j,none⟩=some v):
  (W.setCell ⟨g,i,none⟩ u).heap[g]? =some (.cells (cs.setIfInBounds i u) t (0,0))∧∀j v,(xs.set i u)[j]? =some v→(W.setCell ⟨g,i,none⟩ u).cell? ⟨g,j,none⟩=some v:=
 ⟨heap_setCell_same _ g i _ _ _ h.1,row_set h.1 h.2 i u⟩
theorem SpAt.five (h:SpAt w W pb n m fc gc fa ga xs gs) (hx:xs[f]? =some x) {k:Nat} {c:Ci} (y:Ci) (hc:x.1.code[k]? =some c):∃cb,x.2.ca=some ⟨cb,0,none⟩∧w.heap.size≤cb∧(∀j,W.frozen? ⟨cb,j,none⟩=false)∧(∀j,j<5→∃u,W.cell? ⟨cb,k*5+j,none⟩=some u)∧
  PrAt (((((W.setCell ⟨cb,k*5,none⟩ (.int .i64 y.op)).setCell ⟨cb,k*5+1,none⟩ (.int .i64 y.a)).setCell ⟨cb,k*5+2,none⟩ (.int .i64 y.b)).setCell ⟨cb,k*5+3,none⟩ (.string y.text)).setCell ⟨cb,k*5+4,none⟩ (.int .i64 y.at_)) pb ⟨(xs.map Prod.fst).set f {x.1 with code:=x.1.code.set k y},gs⟩ n m fc gc fa ga (xs.set f ({x.1 with code:=x.1.code.set k y},x.2)):=by
 have hc0:x.1.code≠ []:=fun e=>by rw[e] at hc;simp at hc
 obtain⟨cb,ccs,e1,e2,e3,e4,e5⟩:=code_block h.own h.ap hx hc0
 refine⟨cb,e1,e2,fun j=>frozen_of_row W cb j _ _ e3,fun j hj=> ?_, ?_⟩
 ·have:=flat_at ins_len x.1.code k c hc j hj
  obtain⟨v,hv⟩:∃v,(insCells c)[j]? =some v:=⟨_,List.getElem?_eq_getElem hj⟩
  exact⟨v,e4 _ _ (this.trans hv)⟩
 have r:=row_setB (k*5+4) (.int .i64 y.at_) (row_setB (k*5+3) (.string y.text) (row_setB (k*5+2) (.int .i64 y.b) (row_setB (k*5+1) (.int .i64 y.a) (row_setB (k*5) (.int .i64 y.op) ⟨e3,e4⟩))))
 refine h.ins hx (c:=x.1.code.set k y) (by simp) hc0 e1 (by simp only[World.size_setCell]) (fun g hg=> ?_) fun i u hi=> ?_
 ·have hs:∀(V:World) i v,(V.setCell ⟨cb,i,none⟩ v).heap[g]? =V.heap[g]? :=fun V i v=>Below.heap_setCell _ _ _ _ hg
  rw[hs,hs,hs,hs,hs]
 ·rw[flat_five y hc] at hi
  exact r.2 i u hi
theorem SpAt.slots (h:SpAt w W pb n m fc gc fa ga xs gs) (hx:xs[f]? =some x) {gf:Nat} (hfa:fa=some ⟨gf,0,none⟩) (v:Int):
  PrAt (W.setCell ⟨gf,f*6+2,none⟩ (.int .i64 v)) pb ⟨(xs.map Prod.fst).set f {x.1 with slots:=v},gs⟩ n m fc gc fa ga (xs.set f ({x.1 with slots:=v},x.2)):=by
 obtain⟨gf',cs,e1,e2,e3,e4,e5,e6,_⟩:=h.fcs hx
 obtain rfl:gf'=gf:=by rw[hfa] at e1;injection e1 with e1;injection e1 with e1;exact e1.symm
 exact⟨(Below.heap_setCell _ _ _ _ (by show pb≠gf';exact fun e=>e2 e.symm)).trans h.box,turn_slots h.own h.hn h.hm hx hfa e4 e5 e6 v,h.c1,h.c2⟩
theorem SpAt.app {W2:World} {o:Obj} (h:SpAt w W pb n m fc gc fa ga xs gs) (hx:xs[f]? =some x) {gf:Nat} (hfa:fa=some ⟨gf,0,none⟩) {ins:List Ci} {g2 k cap2:Nat} (hk:x.1.code.length+ins.length=k)
  (ho:W2.ownsRow w.heap.size 36 5 (.slice (some ⟨g2,0,none⟩) k cap2) k (x.1.code.flatMap insCells++ins.flatMap insCells)) (hg:(W.alloc o).grownBy W2 (Value.slice x.2.ca x.1.code.length x.2.cc).ownBlock) (hg2:(Value.slice x.2.ca x.1.code.length x.2.cc).ownBlock=some g2∨g2=(W.alloc o).heap.size):
  PrAt (W2.setCell ⟨gf,f*6+5,none⟩ (.slice (some ⟨g2,0,none⟩) k cap2)) pb ⟨(xs.map Prod.fst).set f {x.1 with code:=x.1.code++ins},gs⟩ n m fc gc fa ga (xs.set f ({x.1 with code:=x.1.code++ins},{x.2 with ca:=some ⟨g2,0,none⟩,cc:=cap2})):=by
 obtain⟨gf',cs,e1,e2,e3,e4,e5,e6,_⟩:=h.fcs hx
 obtain rfl:gf'=gf:=by rw[hfa] at e1;injection e1 with e1;injection e1 with e1;exact e1.symm
 refine⟨(Below.heap_setCell _ _ _ _ (by show pb≠gf';exact fun e=>e2 e.symm)).trans ((grown_keep hg h.plt fun e=> ?_).trans h.box),turn_app h.own h.ap h.hn h.hm hx hfa e4 e5 e6 hk ho hg hg2,h.c1,h.c2⟩
 exact h.nb pb (.inr (.inr ⟨x,List.mem_of_getElem? hx,.inr e⟩)) rfl
theorem SpAt.glob {W2:World} {o:Obj} (h:SpAt w W pb n m fc gc fa ga xs gs) {ns:List ByteArray} {g2 k cap2:Nat} (hk:m+ns.length=k)
  (ho:W2.ownsRow w.heap.size 9 1 (.slice (some ⟨g2,0,none⟩) k cap2) k (gs.map Value.string++ns.map Value.string)) (hg:(W.alloc o).grownBy W2 (Value.slice ga m gc).ownBlock) (hg2:(Value.slice ga m gc).ownBlock=some g2∨g2=(W.alloc o).heap.size):
  PrAt (W2.setCell ⟨pb,1,none⟩ (.slice (some ⟨g2,0,none⟩) k cap2)) pb ⟨xs.map Prod.fst,gs++ns⟩ n k fc cap2 fa (some ⟨g2,0,none⟩) xs:=by
 have hb2:W2.heap[pb]? =some (.cells #[.slice fa n fc,.slice ga m gc] 27 (0,0)):=(grown_keep hg h.plt fun e=>h.nb pb (.inr (.inl e)) rfl).trans h.box
 have hsa:=World.size_alloc W o
 have hpl:=h.plt
 have hne:∀g,g≠pb→(W2.setCell ⟨pb,1,none⟩ (.slice (some ⟨g2,0,none⟩) k cap2)).heap[g]? =W2.heap[g]? :=fun g hg=>Below.heap_setCell _ _ _ _ hg
 have hg2n:g2≠pb:=by
  rcases hg2 with e|e
  ·exact h.nb g2 (.inr (.inl e))
  ·omega
 have ho2:=own_keep ho (W':=W2.setCell ⟨pb,1,none⟩ (.slice (some ⟨g2,0,none⟩) k cap2)) fun g hgo=>by
  simp only[Value.ownBlock,Option.some.injEq] at hgo
  subst hgo
  exact hne _ hg2n
 refine⟨(heap_setCell_same _ pb 1 _ _ _ hb2).trans rfl,⟨by simp[h.hn],by simp[h.hm,hk],rfl, ?_, ?_,fun y hy=> ?_⟩,h.c1,(own_rowA ho2).2⟩
 ·have h2:=own_keep h.own.own1 (W':=W2.setCell ⟨pb,1,none⟩ (.slice (some ⟨g2,0,none⟩) k cap2)) fun g hgo=>(hne g (h.nb g (.inl hgo))).trans (grown_keep hg (h.own.own1.lt g hgo).2 fun e=>(h.own.n1 g hgo).1 e)
  rw[h.hn] at h2
  exact(own_rowA h2).1
 ·show RowIs _ _ _ ((gs++ns).map Value.string)
  rw[List.map_append]
  exact(own_rowA ho2).1
 ·exact((h.own.fns y hy).keep fun g hgo=>(hne g (h.nb g (.inr (.inr ⟨y,hy,hgo⟩)))).trans (grown_keep hg ((h.own.fns y hy).lt hgo).2 fun e=>h.own.n2 g e y hy hgo)).lies
end
theorem asNilW (w:World):Sem.run Tryz.prog (Instr.typeAssert .nilIface 38 42 true) w= .ok (.tuple #[.pointer none,.bool false]) w:=by kernel_rfl
theorem pickN_lt (c:Int) {n:Nat} (h:0<n):pickN c n<n:=by
 unfold pickN
 have h1:=Int.emod_lt_of_pos (if c<0 then-(c+1) else c) (b:=(n:Int)) (by omega)
 have h2:=Int.emod_nonneg (if c<0 then-(c+1) else c) (b:=(n:Int)) (by omega)
 omega
def SpOut (w:World) (raw:List Int) (e:Ending) (W':World):Prop:=∃n m fc gc fa ga xs gs,e= .returned (.agg #[.slice fa n fc,.slice ga m gc])∧W'.heap.size+1=(W'.alloc (.cells #[.slice fa n fc,.slice ga m gc] 27 (0,0))).heap.size∧(⟨xs.map Prod.fst,gs⟩:Cp)=madeC raw∧SpAt w (W'.alloc (.cells #[.slice fa n fc,.slice ga m gc] 27 (0,0))) W'.heap.size n m fc gc fa ga xs gs
theorem sp_made {w:World} {ra:Option Addr} {rn rc:Nat} {raw:List Int} (hr:RowIs w w.heap.size ra (raw.map (Value.int .i64))) (hok:∀x∈raw,okI x) (hn:raw.length=rn):Calls Tryz.prog 9 #[.slice ra rn rc] w (SpOut w raw):=by
 subst hn
 refine(made_any hr hok).mono fun e W' hp=> ?_
 obtain⟨vf,vg,xs,gs,rfl,hb,hown,hap,hp⟩:=hp
 obtain⟨n,m,fc,gc,fa,ga,rfl,rfl,hs⟩:=SpAt.new hb hown hap
 exact⟨n,m,fc,gc,fa,ga,xs,gs,rfl,(World.size_alloc _ _).symm,hp,hs⟩
theorem made_facts {raw:List Int} {xs:List (Cf×Fv)} {gs:List ByteArray} (h:(⟨xs.map Prod.fst,gs⟩:Cp)=madeC raw):1≤xs.length∧xs.length≤5∧gs.length≤2∧∀(f:Nat) (x:Cf×Fv),xs[f]? =some x→1≤x.1.code.length∧x.1.code.length≤600∧0≤x.1.params∧x.1.params≤5:=by
 obtain⟨tops,h1,h2,h3,h4,h5⟩:=made_parts raw
 rw[←h] at h2 h3 h4 h5
 simp only[List.length_map] at h3 h4
 refine⟨h3,h4,by rw[show gs=_ from h2,List.length_take];omega,fun f x hx=> ?_⟩
 obtain⟨n,e1,e2,e3,e4,e5,e6⟩:=(h5 f x.1 (by show(xs.map Prod.fst)[f]? =_;rw[List.getElem?_map,hx];rfl)).slots
 have:=List.length_pos_iff.2 e6.ne
 exact⟨this,e6.len,e4,by omega⟩
def SpEnd (w wx:World) (pb:Nat) (B:Bool):Prop:=∃p n m fc gc fa ga ys,Below w.heap.size w wx∧PrAt wx pb p n m fc gc fa ga ys∧Small p∧(B=true→∃x,rightC p=some x∧x.code=130)∧(B=false→rightC p=none)
section
variable {w W W':World} {pb n m fc gc n' m' fc' gc' f v k:Nat} {fa ga fa' ga':Option Addr} {xs ys:List (Cf×Fv)} {gs:List ByteArray} {x:Cf×Fv} {raw:List Int} {p:Cp}
theorem SpEnd.of (hm:(⟨xs.map Prod.fst,gs⟩:Cp)=madeC raw) (hx:xs[f]? =some x) (hk:k<x.1.code.length) (hb:Below w.heap.size w W') (hp:PrAt W' pb p n' m' fc' gc' fa' ga' ys) (he:p=spoilC ⟨xs.map Prod.fst,gs⟩ f v k):SpEnd w W' pb (decide (v<7)):=by
 rw[hm] at he
 subst he
 have hx':(madeC raw).funcs[f]? =some x.1:=by rw[←hm];show(xs.map Prod.fst)[f]? =_;rw[List.getElem?_map,hx];rfl
 refine⟨_,_,_,_,_,_,_,_,hb,hp,spoil_small raw f v k,fun hB=>spoil_bad raw f k v (of_decide_eq_true hB) hx' hk,fun hB=>spoil_right raw f k v (by have:=of_decide_eq_false hB;omega)⟩
theorem SpEnd.fn (hm:(⟨xs.map Prod.fst,gs⟩:Cp)=madeC raw) (hx:xs[f]? =some x) (hk:k<x.1.code.length) (hb:Below w.heap.size w W') (h5:v≠5) {y:Cf} (he:spoilF v k x.1=y) (hp:PrAt W' pb ⟨(xs.map Prod.fst).set f y,gs⟩ n' m' fc' gc' fa' ga' ys):SpEnd w W' pb (decide (v<7)):=
 SpEnd.of hm hx hk hb hp (by rw[spoil_fn (y:=x.1) (by show(xs.map Prod.fst)[f]? =_;rw[List.getElem?_map,hx];rfl) h5,he])
theorem PrAt.rightW (h:PrAt W pb p n m fc gc fa ga xs) (hs:Small p) (hG:Gc W):Calls Tryz.prog 11 #[.agg #[.slice fa n fc,.slice ga m gc]] W (RightPost W (rightC p)):=right_all h.pg h.c1 h.c2 hs.tame.1 hG
theorem PrAt.encW (h:PrAt W pb p n m fc gc fa ga xs) (hs:Small p) (hG:Gc W):Calls Tryz.prog 12 #[.agg #[.slice fa n fc,.slice ga m gc]] W (EncPost W p):=encode_any h.pg h.c1 h.c2 hs.tame.1 hG fun _=>by have:=hs.bytes;omega
theorem PrAt.lisW (h:PrAt W pb p n m fc gc fa ga xs) (hs:Small p) (hG:Gc W):Calls Tryz.prog 13 #[.agg #[.slice fa n fc,.slice ga m gc]] W (LisPost W p):=list_any h.pg h.c1 h.c2 hs.tame.1 hG (fun _=>by have:=hs.lines;omega) hs.tame.2
end
theorem grown_low {lo:Nat} {w W W2:World} {o:Obj} {row:Option Nat} (hl:Below lo w W) (hlo:lo≤W.heap.size) (hg:(W.alloc o).grownBy W2 row) (hr:∀g,row=some g→lo≤g):Below lo w W2:=
 (hl.alloc hlo o).trans ⟨hg.os,hg.tape,hg.output,hg.size,fun k hk=>hg.block k (by have:=World.size_alloc W o;omega) (fun e=>by have:=hr k e.symm;omega)⟩
theorem below7 {k:Nat} (h:k<8):k=0∨k=1∨k=2∨k=3∨k=4∨k=5∨k=6∨k=7:=by omega
theorem tdiv5 {n:Int} (h:okI n):okI (n.tdiv 5):=by
 obtain⟨h1,h2⟩:=h
 rcases Int.le_total 0 n with h|h
 ·rw[Int.tdiv_eq_ediv_of_nonneg h];exact⟨by omega,by omega⟩
 ·obtain⟨k,rfl⟩:∃k:Int,n= -k:=⟨-n,by omega⟩
  rw[Int.neg_tdiv,Int.tdiv_eq_ediv_of_nonneg (by omega)]
  exact⟨by omega,by omega⟩
attribute [local go_sem] asNilW
theorem CodeSpoilt_any {raw:List Int} {ra:Option Addr} {rn rc:Nat} {which how:Int} {w:World} (hG:Gc w) (hE:Ge w) (hr:RowIs w w.heap.size ra (raw.map (Value.int .i64))) (hrk:∀x∈raw,okI x) (hrn:raw.length=rn) (hw:okI which) (hh:okI how):
  Calls Tryz.prog 3 #[.slice ra rn rc,.int .i64 which,.int .i64 how] w fun e w'=>e= .returned (.bool true)∧Below w.heap.size w w':=by
 have HG:=Lib.hid hG
 have HE:=Lib.hid hE
 have HMP:Hid (∀W,Below w.heap.size w W→Calls Tryz.prog 9 #[.slice ra rn rc] W (SpOut W raw)):=Lib.hid fun W hb=>sp_made (hr.up hb) hrk hrn
 have HWK:=Lib.hid hw
 have HHK:=Lib.hid hh
 obtain⟨Q,hQ⟩:∃Q,which.tdiv 5=Q:=⟨_,rfl⟩
 have HQK:Hid (okI Q):=Lib.hid (by rw[←hQ];exact tdiv5 hw)
 have hqw:IntKind.i64.wrap Q=Q:=by have:=HQK.out;rw[IntKind.wrap_i64];unfold okI at this;omega
 clear hG hE hr hrk hrn hw hh
 go_enter Tryz.func3,Tryz.ntmps3
 go_upto_region 2 with(go_at_call 8;refine(known_all HG.out HE.out).mono ?_;rintro e w1 ⟨rfl,hb1⟩;have HB1:=Lib.hid hb1;clear hb1)
 go_upto_region 3 with(go_at_call 9;refine(HMP.out _ HB1.out).mono ?_;rintro e w2 ⟨n,m,fc,gc,fa,ga,xs,gs,rfl,_,hmc,hs⟩)
 have HS:=Lib.hid hs
 have HMC:=Lib.hid hmc
 obtain⟨pb,hpb⟩:∃pb,w2.heap.size=pb:=⟨_,rfl⟩
 obtain⟨W,hW⟩:∃W,w2.alloc (.cells #[.slice fa n fc,.slice ga m gc] 27 (0,0))=W:=⟨_,rfl⟩
 simp only[hpb,hW] at HS⊢
 clear hpb hW hs hmc HMP
 obtain⟨hx1,hx5,hg2,hall⟩:=made_facts HMC.out
 have hnx:=HS.out.hn
 rw[hnx] at hx1 hx5
 obtain⟨F,hF⟩:∃F,pickN which n=F:=⟨_,rfl⟩
 have hFn:F<n:=by rw[←hF];exact pickN_lt which hx1
 obtain⟨x,hx⟩:∃x,xs[F]? =some x:=⟨_,List.getElem?_eq_getElem (by omega)⟩
 obtain⟨hc1,hc2,hp0,hp5⟩:=hall F x hx
 obtain⟨L,hL⟩:∃L,x.1.code.length=L:=⟨_,rfl⟩
 rw[hL] at hc1 hc2
 obtain⟨K,hK⟩:∃K,pickN how L=K:=⟨_,rfl⟩
 have hKL:K<L:=by rw[←hK];exact pickN_lt how hc1
 obtain⟨V,hV⟩:∃V,pickN Q 8=V:=⟨_,rfl⟩
 have hV8:V<8:=by rw[←hV];exact pickN_lt Q (by decide)
 obtain⟨gf,fcs,hfa,hgp,hglo,hgb,hgr,_,x1,x5⟩:=HS.out.fcs hx
 have HP1:Hid (∀u,Calls Tryz.prog 10 #[.int .i64 which,.int .i64 n] u fun e w'=>e= .returned (.int .i64 F)∧u=w'):=Lib.hid fun u=>by rw[←hF];exact(pick_any which n HWK.out hx1 (by omega) u).mono fun _ _ h=>⟨h.1,h.2.symm⟩
 have HP2:Hid (∀u,Calls Tryz.prog 10 #[.int .i64 how,.int .i64 L] u fun e w'=>e= .returned (.int .i64 K)∧u=w'):=Lib.hid fun u=>by rw[←hK];exact(pick_any how L HHK.out hc1 (by omega) u).mono fun _ _ h=>⟨h.1,h.2.symm⟩
 have HP3:Hid (∀u,Calls Tryz.prog 10 #[.int .i64 Q,.int .i64 8] u fun e w'=>e= .returned (.int .i64 V)∧u=w'):=Lib.hid fun u=>by rw[←hV];exact(pick_any Q 8 HQK.out (by decide) (by decide) u).mono fun _ _ h=>⟨h.1,h.2.symm⟩
 rw[hL] at x5
 have HX:=Lib.hid hx
 have HL:=Lib.hid hL
 have z1:=frozen_of_row W gf (F*6+2) _ _ hgb
 have z5:=frozen_of_row W gf (F*6+5) _ _ hgb
 have HGB:=Lib.hid hgb
 have hgl:=(Array.getElem?_eq_some_iff.1 hgb).1
 obtain⟨u2,x2⟩:∃u,W.cell? ⟨gf,F*6+2,none⟩=some u:=⟨_,hgr _ _ ((flat_at fn_len xs F x hx 2 (by omega)).trans rfl)⟩
 obtain⟨p0,p1,zp⟩:=HS.out.cs
 have HLOW:=Lib.hid (HB1.out.trans (HS.out.low.mono HB1.out.size))
 subst hfa
 clear hF hK hV hx hL hgb hgr hnx hall
 go_upto_region 4 with(go_at_call 10;refine(HP1.out _).mono ?_;rintro e w' ⟨rfl,rfl⟩)
 go_upto_region 6 with(go_at_call 10;refine(HP2.out _).mono ?_;rintro e w' ⟨rfl,rfl⟩)
 go_upto_block 0 with(go_at_call 10;refine(HP3.out _).mono ?_;rintro e w' ⟨rfl,rfl⟩)
 go_cut [12] (fun s12 wx=>∃B,s12= .bool B∧Hid (SpEnd w wx pb B))
 case first=>
  obtain⟨c,hc⟩:∃c,x.1.code[K]? =some c:=⟨_,List.getElem?_eq_getElem (by rw[HL.out];exact hKL)⟩
  have HC:=Lib.hid hc
  have hKx:Hid (K<x.1.code.length):=Lib.hid (by rw[HL.out];exact hKL)
  clear hc
  rcases below7 hV8 with rfl|rfl|rfl|rfl|rfl|rfl|rfl|rfl
  ·obtain⟨cb,hca,hlo,z0,z4,⟨u0,hu0⟩,⟨u4,hu4⟩,hfin⟩:=HS.out.one (y:= {c with op:=0}) HX.out HC.out
   rw[hca] at x5
   have HF:=Lib.hid (SpEnd.fn (v:=0) HMC.out HX.out hKx.out (HLOW.out.setCell (Nat.le_trans HB1.out.size hlo) _) (by decide) (by rw[show x.1.code.set K {c with op:=0}=_ from(mod_set (fun i:Ci=> {i with op:=0}) HC.out).symm];rfl) (hfin 0 (.int .i64 0) (by decide) rfl))
   clear hfin hca
   go_wp2_with fail
   go_meet
   exact⟨true,rfl,HF⟩
  ·obtain⟨cb,hca,hlo,z0,z4,⟨u0,hu0⟩,⟨u4,hu4⟩,hfin⟩:=HS.out.one (y:= {c with op:=54}) HX.out HC.out
   rw[hca] at x5
   have HF:=Lib.hid (SpEnd.fn (v:=1) HMC.out HX.out hKx.out (HLOW.out.setCell (Nat.le_trans HB1.out.size hlo) _) (by decide) (by rw[show x.1.code.set K {c with op:=54}=_ from(mod_set (fun i:Ci=> {i with op:=54}) HC.out).symm];rfl) (hfin 0 (.int .i64 54) (by decide) rfl))
   clear hfin hca
   go_wp2_with fail
   go_meet
   exact⟨true,rfl,HF⟩
  ·obtain⟨cb,hca,hlo,z0,z4,⟨u0,hu0⟩,⟨u4,hu4⟩,hfin⟩:=HS.out.one (y:= {c with at_:= -1}) HX.out HC.out
   rw[hca] at x5
   have HF:=Lib.hid (SpEnd.fn (v:=2) HMC.out HX.out hKx.out (HLOW.out.setCell (Nat.le_trans HB1.out.size hlo) _) (by decide) (by rw[show x.1.code.set K {c with at_:= -1}=_ from(mod_set (fun i:Ci=> {i with at_:= -1}) HC.out).symm];rfl) (hfin 4 (.int .i64 (-1)) (by decide) rfl))
   clear hfin hca
   go_wp2_with fail
   go_meet
   exact⟨true,rfl,HF⟩
  ·have HOC:Hid (W.ownsRow w1.heap.size 36 5 (.slice x.2.ca L x.2.cc) L (x.1.code.flatMap insCells)):=Lib.hid (by have:=(HS.out.own.fns x (List.mem_of_getElem? HX.out)).2;rw[HL.out] at this;exact this)
   obtain⟨i0,hi,hz0,hz1,hz2⟩:=info_parts instInfo
   go_wp2_with (at_builtin;refine wpList_append_lies _ rfl _ _ 31 rfl w1.heap.size 36 i0 _ 5 48 Tryz.underlying31 hi hz0 hz1 hz2 rfl (by decide) _ _ _ rfl (HOC.out.alloc _) ⟨W.heap.size,0,none⟩ 1 1 (([⟨7,0,0,⟨#[]⟩,0⟩]:List Ci).flatMap insCells) rfl rfl (fun k u hu=>news_at W _ _ _ k u hu) (by intro u hu;simp[insCells] at hu;rcases hu with rfl|rfl|rfl|rfl|rfl<;>rfl) (by decide) (by unfold maxLen;omega) (by omega) (by have:=HS.out.low.size;rw[World.size_alloc];omega) _ rfl ?_;intro g2 cap2 w3 ho hg hb hl;have hk:=grown_keep hg hgl (fun e=>by have:=HS.out.own.n1 gf rfl;exact this.2 x (List.mem_of_getElem? HX.out) (.inr (by rw[HL.out];exact e)));have y5:=(World.cell?_of_block (a:=⟨gf,F*6+5,none⟩) hk).trans x5;have v5:=(frozen_keep hk (F*6+5)).trans z5;have HLB:=Lib.hid (grown_low HS.out.low HS.out.low.size hg (fun g e=>(HOC.out.lt g e).1));rw[←HL.out] at hg hb;have HF:=Lib.hid (HS.out.app HX.out rfl (ins:=[⟨7,0,0,⟨#[]⟩,0⟩]) (by rw[HL.out];rfl) ho hg hb);clear ho hg hb hk)
   go_meet
   exact⟨true,rfl,Lib.hid (SpEnd.fn (v:=3) HMC.out HX.out hKx.out ((HB1.out.trans (HLB.out.mono HB1.out.size)).setCell (Nat.le_trans HB1.out.size hglo) _) (by decide) rfl HF.out)⟩
  ·have hsub:IntKind.i64.wrap (x.1.params-1)=x.1.params-1:=by rw[IntKind.wrap_i64];omega
   have HF:=Lib.hid (SpEnd.fn (v:=4) HMC.out HX.out hKx.out (HLOW.out.setCell (Nat.le_trans HB1.out.size hglo) _) (by decide) rfl (HS.out.slots HX.out rfl (x.1.params-1)))
   go_wp2_with fail
   go_meet
   exact⟨true,rfl,HF⟩
  ·have HOG:Hid (W.ownsRow w1.heap.size 9 1 (.slice ga m gc) m (gs.map Value.string)):=Lib.hid (by have:=HS.out.own.own2;rw[HS.out.hm] at this;exact this)
   obtain⟨i0,hi,hz0,hz1,hz2⟩:=info_parts strInfo
   have hm2:m≤2:=by have:=HS.out.hm;omega
   go_wp2_with (at_builtin;refine wpList_append_lies _ rfl _ _ 25 rfl w1.heap.size 9 i0 _ 1 16 Tryz.underlying25 hi hz0 hz1 hz2 rfl (by decide) _ _ _ rfl (HOG.out.alloc _) ⟨W.heap.size,0,none⟩ 2 2 (([⟨#[99]⟩,⟨#[99]⟩]:List ByteArray).map Value.string) rfl rfl (fun k u hu=>news_at W _ _ _ k u hu) (by intro u hu;simp at hu;subst hu;rfl) (by decide) (by unfold maxLen;omega) (by omega) (by have:=HS.out.low.size;rw[World.size_alloc];omega) _ rfl ?_;intro g2 cap2 w3 ho hg hb hl;have hk:=grown_keep hg HS.out.plt (fun e=>HS.out.nb pb (.inr (.inl e)) rfl);have y1:=(World.cell?_of_block (a:=⟨pb,1,none⟩) hk).trans p1;have v1:=(frozen_keep hk 1).trans zp;have HLB:=Lib.hid (grown_low HS.out.low HS.out.low.size hg (fun g e=>(HOG.out.lt g e).1));have HF:=Lib.hid (HS.out.glob (ns:=[⟨#[99]⟩,⟨#[99]⟩]) rfl ho hg hb);clear ho hg hb hk)
   go_meet
   exact⟨true,rfl,Lib.hid (SpEnd.of (v:=5) HMC.out HX.out hKx.out ((HB1.out.trans (HLB.out.mono HB1.out.size)).setCell (Nat.le_trans HB1.out.size HS.out.plo) _) HF.out (spoil_gl (p:=⟨xs.map Prod.fst,gs⟩)).symm)⟩
  ·obtain⟨l,rfl⟩:∃l,L=l+1:=⟨L-1,by omega⟩
   obtain⟨cl,hcl⟩:∃c,x.1.code[l]? =some c:=⟨_,List.getElem?_eq_getElem (by have:=HL.out;omega)⟩
   have HSD:=HS.out.under (W':=W.drew) ⟨rfl,rfl,rfl,Nat.le_refl _,fun _ _=>rfl⟩
   have HLD:Hid (Below w.heap.size w W.drew):=Lib.hid ⟨HLOW.out.os,HLOW.out.tape,HLOW.out.output,HLOW.out.size,HLOW.out.block⟩
   obtain⟨cb,hca,hlo,hz,hu,hfin⟩:=HSD.five HX.out ⟨34,(l:Int)+1,0,⟨#[]⟩,0⟩ hcl
   rw[hca] at x5
   obtain⟨u0,hu0⟩:=hu 0 (by decide)
   have hu0:W.drew.cell? ⟨cb,l*5,none⟩=some u0:=hu0
   obtain⟨u1,hu1⟩:=hu 1 (by decide)
   obtain⟨u2',hu2⟩:=hu 2 (by decide)
   obtain⟨u3,hu3⟩:=hu 3 (by decide)
   obtain⟨u4,hu4⟩:=hu 4 (by decide)
   have HF:=Lib.hid hfin
   have z0:=hz (l*5)
   have z1':=hz (l*5+1)
   have z2':=hz (l*5+2)
   have z3':=hz (l*5+3)
   have z4':=hz (l*5+4)
   have hla:=Nat.le_trans HB1.out.size hlo
   have hl1:IntKind.i64.wrap (l:Int)=(l:Int):=by rw[IntKind.wrap_i64];omega
   have hl2:(0:Int)≤(l:Int)∧(l:Int)<(l:Int)+1:=by omega
   have x5:W.drew.cell? ⟨gf,F*6+5,none⟩=some (.slice (some ⟨cb,0,none⟩) (l+1) x.2.cc):=x5
   clear hfin hca hcl hu hz HSD
   go_upto_region 23 with fail
   refine wp_region_G [17] (fun u=>u.cell? ⟨gf,F*6+5,none⟩=some (.slice (some ⟨cb,0,none⟩) (l+1) x.2.cc)) (by rfl) ?_ (fun hHeld=> ?_)
   ·exact x5
   generalize hwd:World.drew W=wd at HF HLD x5 hu0 hu1 hu2 hu3 hu4 z0 z1' z2' z3' z4' hHeld⊢
   refine tk 0 (h:=tk 1 (h:=tk 2 (h:=tk 3 (h:=tk 4 (h:=tk 5 (h:= ?_))))))
   try simp only[nmC]
   refine tk 6 (h:=tk 7 (h:=tk 8 (h:=tk 9 (h:=tk 10 (h:=tk 11 (h:= ?_))))))
   try simp only[nmC]
   refine tk 12 (h:=tk 13 (h:=tk 14 (h:=tk 15 (h:=tk 16 (h:= ?_)))))
   try simp only[nmC]
   refine rl1 17 fun KK hKK=> ?_
   go_simp
   refine hKK.out _ _ ?_
   clear hKK KK
   try simp only[nmC]
   refine wpAny_done (by kernel_rfl) ?_ _
   go_wp2_with fail
   go_meet
   exact⟨true,rfl,Lib.hid (SpEnd.fn (v:=6) HMC.out HX.out hKx.out (((((HLD.out.setCell hla _).setCell hla _).setCell hla _).setCell hla _).setCell hla _) (by decide) (by show {x.1 with code:=x.1.code.set (x.1.code.length-1) ⟨34,x.1.code.length,0,⟨#[]⟩,0⟩}=_;rw[HL.out];rfl) HF.out)⟩
  ·have HOC:Hid (W.ownsRow w1.heap.size 36 5 (.slice x.2.ca L x.2.cc) L (x.1.code.flatMap insCells)):=Lib.hid (by have:=(HS.out.own.fns x (List.mem_of_getElem? HX.out)).2;rw[HL.out] at this;exact this)
   obtain⟨i0,hi,hz0,hz1,hz2⟩:=info_parts instInfo
   go_wp2_with (at_builtin;refine wpList_append_lies _ rfl _ _ 31 rfl w1.heap.size 36 i0 _ 5 48 Tryz.underlying31 hi hz0 hz1 hz2 rfl (by decide) _ _ _ rfl (HOC.out.alloc _) ⟨W.heap.size,0,none⟩ 2 2 (([⟨16,0,0,⟨#[]⟩,0⟩,⟨50,0,0,⟨#[]⟩,0⟩]:List Ci).flatMap insCells) rfl rfl (fun k u hu=>news_at W _ _ _ k u hu) (by intro u hu;simp[insCells] at hu;rcases hu with rfl|rfl|rfl|rfl|rfl|rfl|rfl|rfl|rfl|rfl<;>rfl) (by decide) (by unfold maxLen;omega) (by omega) (by have:=HS.out.low.size;rw[World.size_alloc];omega) _ rfl ?_;intro g2 cap2 w3 ho hg hb hl;have hk:=grown_keep hg hgl (fun e=>by have:=HS.out.own.n1 gf rfl;exact this.2 x (List.mem_of_getElem? HX.out) (.inr (by rw[HL.out];exact e)));have y5:=(World.cell?_of_block (a:=⟨gf,F*6+5,none⟩) hk).trans x5;have v5:=(frozen_keep hk (F*6+5)).trans z5;have HLB:=Lib.hid (grown_low HS.out.low HS.out.low.size hg (fun g e=>(HOC.out.lt g e).1));rw[←HL.out] at hg hb;have HF:=Lib.hid (HS.out.app HX.out rfl (ins:=[⟨16,0,0,⟨#[]⟩,0⟩,⟨50,0,0,⟨#[]⟩,0⟩]) (by rw[HL.out];rfl) ho hg hb);clear ho hg hb hk)
   go_meet
   exact⟨false,rfl,Lib.hid (SpEnd.fn (v:=7) HMC.out HX.out hKx.out ((HB1.out.trans (HLB.out.mono HB1.out.size)).setCell (Nat.le_trans HB1.out.size hglo) _) (by decide) rfl HF.out)⟩
 case rest=>
  obtain⟨B,rfl,HEN⟩:=hcut
  clear HS HMC HX HL HGB HP1 HP2 HP3 HLOW x1 x5 x2 p0 p1 zp z1 z5 hp0 hp5 hx1 hx5 hg2 hFn hKL hV8 hgp hglo hgl hc1 hc2 HQK hqw HWK HHK
  obtain⟨p,n,m,fc,gc,fa,ga,ys,hb,hpr,hsm,ht,hf⟩:=HEN.out
  have HP:=Lib.hid hpr
  have HSM:=Lib.hid hsm
  have HBW:=Lib.hid hb
  obtain⟨p0,p1⟩:=HP.out.cs
  clear hb hpr hsm HEN
  cases B with
  |true=>
   obtain⟨xw,hxw,h130⟩:=ht rfl
   have HR:=Lib.hid hxw
   have H130:=Lib.hid h130
   clear ht hf hxw h130
   go_upto_region 25 with(go_at_call 11;refine(HP.out.rightW HSM.out (HG.out.up HBW.out)).mono ?_;rintro e w4 ⟨hb4,h4⟩;rw[HR.out] at h4;obtain⟨b,rfl,_,hw4⟩:=h4;rw[H130.out] at hw4;have HP4:=Lib.hid (HP.out.under hb4);have HB4:=Lib.hid (HBW.out.trans (hb4.mono HBW.out.size));have HW4:=Lib.hid hw4;clear hb4 hw4)
   clear p0 p1 HP HBW
   obtain⟨p0,p1⟩:=HP4.out.cs
   go_upto_region 26 with(go_at_call 12;refine(HP4.out.encW HSM.out (HG.out.up HB4.out)).mono ?_;rintro e w5 ⟨hb5,h5⟩;rw[HR.out] at h5;obtain⟨b5,rfl,_,_⟩:=h5;have HP5:=Lib.hid (HP4.out.under hb5);have HB5:=Lib.hid (HB4.out.trans (hb5.mono HB4.out.size));have HW5:Hid (WrAt w5 b 130 xw.at_ xw.ins):=Lib.hid ((hb5.block b (Array.getElem?_eq_some_iff.1 HW4.out).1).trans HW4.out);clear hb5)
   clear p0 p1 HP4 HB4 HW4
   obtain⟨p0,p1⟩:=HP5.out.cs
   go_upto_region 27 with(go_at_call 13;refine(HP5.out.lisW HSM.out (HG.out.up HB5.out)).mono ?_;rintro e w6 ⟨hb6,h6⟩;rw[HR.out] at h6;obtain⟨b6,rfl,_,_⟩:=h6;have HB6:=Lib.hid (HB5.out.trans (hb6.mono HB5.out.size));have HW6:Hid (WrAt w6 b 130 xw.at_ xw.ins):=Lib.hid ((hb6.block b (Array.getElem?_eq_some_iff.1 HW5.out).1).trans HW5.out);clear hb6)
   clear p0 p1 HP5 HB5 HW5
   have r0:=cell_of_row _ b 0 _ _ _ HW6.out
   simp only[List.getElem?_toArray,List.getElem?_cons_zero] at r0
   have hta:=isWrongC
   go_wp2_with fail
   go_ret
   exact⟨rfl,HB6.out⟩
  |false=>
   have HR:=Lib.hid (hf rfl)
   clear ht hf
   go_upto_region 25 with(go_at_call 11;refine(HP.out.rightW HSM.out (HG.out.up HBW.out)).mono ?_;rintro e w4 ⟨hb4,h4⟩;rw[HR.out] at h4;obtain rfl:=h4;have HP4:=Lib.hid (HP.out.under hb4);have HB4:=Lib.hid (HBW.out.trans (hb4.mono HBW.out.size));clear hb4)
   clear p0 p1 HP HBW
   obtain⟨p0,p1⟩:=HP4.out.cs
   go_upto_region 26 with(go_at_call 12;refine(HP4.out.encW HSM.out (HG.out.up HB4.out)).mono ?_;rintro e w5 ⟨hb5,h5⟩;rw[HR.out] at h5;obtain rfl:=h5;have HP5:=Lib.hid (HP4.out.under hb5);have HB5:=Lib.hid (HB4.out.trans (hb5.mono HB4.out.size));clear hb5)
   clear p0 p1 HP4 HB4
   obtain⟨p0,p1⟩:=HP5.out.cs
   go_upto_region 27 with(go_at_call 13;refine(HP5.out.lisW HSM.out (HG.out.up HB5.out)).mono ?_;rintro e w6 ⟨hb6,h6⟩;rw[HR.out] at h6;obtain rfl:=h6;have HB6:=Lib.hid (HB5.out.trans (hb6.mono HB5.out.size));clear hb6)
   clear p0 p1 HP5 HB5
   go_wp2_with fail
   go_ret
   exact⟨rfl,HB6.out⟩
end Go.Proofs.YtagnicbknbmccaaGreatDoor
