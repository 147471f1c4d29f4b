/- A frame: every block below a bound but some lies as it lay. A program of code as bytes, in plain form: Encode, Decode. The printer: its strings.Builder (copyCheck, WriteString, Len, String); put. Regions that draw their order: a load may be taken first though an operation that waits for it writes its cell. Short forms that the walks use: a step of a region each; the cells of a row. Stacks in memory: one node for each stack that was come to, the nodes and the stacks one to one. slices.Contains of texts. What container/heap does on numbers, in plain form: the least comes out first. -/
import Derived.Lib.AppendStr
import Derived.Lib.OthersKept
import Derived.Lib.Builder
import Derived.Lib.UnsafeStr
import Derived.Deep.RegionHeld
import Derived.Deep.RegionHeld3
import Derived.Test.YtagnicbknbmccaaGreatDoorMLex1
import Derived.Test.YtagnicbknbmccaaGreatDoorSqC
set_option maxRecDepth 100000
namespace Go.Proofs.YtagnicbknbmccaaGreatDoor
open Go.RowKit
structure Foot (B:Nat) (g:Nat→Prop) (w w':World):Prop where
 os:w'.os=w.os
 tape:w'.tape=w.tape
 output:w'.output=w.output
 size:w.heap.size≤w'.heap.size
 block:∀k,k<B→¬g k→w'.heap[k]? =w.heap[k]?
theorem Foot.refl (B:Nat) (g:Nat→Prop) (w:World):Foot B g w w:=⟨rfl,rfl,rfl,Nat.le_refl _,fun _ _ _=>rfl⟩
theorem Foot.trans {B:Nat} {g:Nat→Prop} {a b c:World} (h:Foot B g a b) (k:Foot B g b c):Foot B g a c:=
 ⟨k.os.trans h.os,k.tape.trans h.tape,k.output.trans h.output,Nat.le_trans h.size k.size,fun i hi hg=>(k.block i hi hg).trans (h.block i hi hg)⟩
theorem Foot.mono {B B':Nat} {g g':Nat→Prop} {a b:World} (h:Foot B g a b) (hB:B'≤B) (hg:∀k,k<B'→g k→g' k):Foot B' g' a b:=⟨h.os,h.tape,h.output,h.size,fun i hi hn=>h.block i (by omega) (fun e=>hn (hg i hi e))⟩
theorem Foot.of {B:Nat} {g:Nat→Prop} {a b:World} (h:Below B a b):Foot B g a b:=⟨h.os,h.tape,h.output,h.size,fun i hi _=>h.block i hi⟩
theorem Foot.to {B C:Nat} {g:Nat→Prop} {a b:World} (h:Foot B g a b) (hC:C≤B) (hg:∀k,g k→C≤k):Below C a b:=⟨h.os,h.tape,h.output,h.size,fun i hi=>h.block i (by omega) (fun e=>by have:=hg i e;omega)⟩
theorem Foot.set {B:Nat} {g:Nat→Prop} {a b:World} (h:Foot B g a b) {p:Addr} (hp:B≤p.block∨g p.block) (v:Value):Foot B g a (b.setCell p v):=
 ⟨h.os,h.tape,h.output,by simpa using h.size,fun k hk hg=>(Below.heap_setCell b p v k (fun e=>by subst e;exact hp.elim (fun h=>by omega) hg)).trans (h.block k hk hg)⟩
theorem Foot.alloc {B:Nat} {g:Nat→Prop} {a b:World} (h:Foot B g a b) (hB:B≤b.heap.size) (o:Obj):Foot B g a (b.alloc o):=
 ⟨h.os,h.tape,h.output,by have:=h.size;simp;omega,fun k hk hg=>(Below.heap_alloc b o k (by omega)).trans (h.block k hk hg)⟩
theorem Foot.grown {B:Nat} {g:Nat→Prop} {a b c:World} {row:Option Nat} (h:Foot B g a b) (hg:b.grownBy c row) (hB:B≤b.heap.size) (hr:∀k,row=some k→B≤k):Foot B g a c:=
 ⟨hg.os.trans h.os,hg.tape.trans h.tape,hg.output.trans h.output,Nat.le_trans h.size hg.size,fun k hk hne=>(hg.block k (by omega) (fun e=>by have:=hr k e.symm;omega)).trans (h.block k hk hne)⟩
theorem Foot.cell {B:Nat} {g:Nat→Prop} {w w':World} (h:Foot B g w w') {p:Addr} (hp:p.block<B) (hne:¬g p.block):w'.cell? p=w.cell? p:=World.cell?_of_block (w:=w) (h.block p.block hp hne)
def foldN (n:Int):Nat:=if 0≤n then(2*n).toNat else(-2*n-1).toNat
def unfoldN (u:Nat):Int:=if u % 2=0 then(u/2:Nat) else-((u/2:Nat):Int)-1
def numU:Nat→Nat→List UInt8
 |0,u=> [UInt8.ofNat u]
 |f+1,u=>if 127<u then UInt8.ofNat (u % 128+128)::numU f (u/128) else [UInt8.ofNat u]
def numB (n:Int):List UInt8:=numU 10 (foldN n)
def textB (s:List UInt8):List UInt8:=numB s.length++s
def instB (x:Ci):List UInt8:=numB x.op++(numB x.a++(numB x.b++(textB x.text.data.toList++numB x.at_)))
def funcB (f:Cf):List UInt8:=textB f.name.data.toList++(numB f.params++(numB f.slots++(numB f.taken.length++(f.taken.flatMap numB++(numB f.around++(numB f.code.length++f.code.flatMap instB))))))
def encodeB (p:Cp):List UInt8:=[71,67,48,49]++(numB p.globals.length++(p.globals.flatMap (fun s=>textB s.data.toList)++(numB p.funcs.length++p.funcs.flatMap funcB)))
structure Drd where
 at_:Nat
 bad:Option Nat
def Drd.fail (r:Drd) (i:Nat):Drd:=match r.bad with
 |none=> {r with bad:=some i}
 |some _=>r
def numLoop (b:List UInt8) (frm:Nat):Nat→Nat→Nat→Drd→Nat×Drd
 |0,_,_,r=>(0,r)
 |f+1,k,u,r=>match b[r.at_]? with
  |none=>(0,r.fail b.length)
  |some c=>
   let r1:Drd:= {r with at_:=r.at_+1}
   if(k=9∧1<c.toNat)∨(0<k∧c.toNat=0) then(0,r1.fail frm)
   else if c.toNat<128 then(u+c.toNat % 128*2^(7*k),r1)
   else numLoop b frm f (k+1) (u+c.toNat % 128*2^(7*k)) r1
def numD (b:List UInt8) (r:Drd):Int×Drd:=match r.bad with
 |some _=>(0,r)
 |none=>let x:=numLoop b r.at_ 11 0 0 r;if x.2.bad=none then(unfoldN x.1,x.2) else(0,x.2)
def manyD (b:List UInt8) (r:Drd):Int×Drd:=
 let x:=numD b r
 if x.2.bad=none∧(x.1<0∨((b.length:Int)-x.2.at_)<x.1) then(0,x.2.fail r.at_) else x
def textD (b:List UInt8) (r:Drd):List UInt8×Drd:=
 let x:=manyD b r
 if x.2.bad=none then((b.drop x.2.at_).take x.1.toNat,{x.2 with at_:=x.2.at_+x.1.toNat}) else([],x.2)
def rowD {α:Type} (g:Drd→α×Drd):Nat→Drd→List α×Drd
 |0,r=>([],r)
 |n+1,r=>if r.bad=none then let x:=g r;let y:=rowD g n x.2;(x.1::y.1,y.2) else([],r)
def instD (b:List UInt8) (r:Drd):Ci×Drd:=
 let o:=numD b r
 let x:=numD b o.2
 let y:=numD b x.2
 let t:=textD b y.2
 let p:=numD b t.2
 (⟨o.1,x.1,y.1,⟨⟨t.1⟩⟩,p.1⟩,p.2)
def funcD (b:List UInt8) (r:Drd):Cf×Drd:=
 let n:=textD b r
 let p:=numD b n.2
 let s:=numD b p.2
 let m:=manyD b s.2
 let t:=rowD (numD b) m.1.toNat m.2
 let a:=numD b t.2
 let c:=manyD b a.2
 let l:=rowD (instD b) c.1.toNat c.2
 (⟨⟨⟨n.1⟩⟩,p.1,s.1,t.1,a.1,l.1⟩,l.2)
theorem byteInfo:(Tryz.prog.info? 5).map (fun i=>(i.zero,i.size,i.bytes))=some (some (.int .u8 0),1,1):=by kernel_rfl
structure PF (bp:Nat) (w w':World):Prop where
 below:Below bp w w'
 others:Lib.OthersKept 5 (some bp) w w'
theorem PF.refl (bp:Nat) (w:World):PF bp w w:=⟨Below.refl _ _,Lib.OthersKept.refl _ _ _⟩
theorem PF.trans {bp:Nat} {a b c:World} (h:PF bp a b) (k:PF bp b c):PF bp a c:=⟨h.below.trans k.below,h.others.trans k.others⟩
theorem PF.set {bp:Nat} {a b:World} (h:PF bp a b) (i:Nat) (v:Value):PF bp a (b.setCell ⟨bp,i,none⟩ v):=⟨h.below.setCell (p:=⟨bp,i,none⟩) (Nat.le_refl _) v,h.others.setCell ⟨bp,i,none⟩ rfl v⟩
theorem PF.alloc {bp:Nat} {a b:World} (h:PF bp a b) (hb:bp≤b.heap.size) (o:Obj):PF bp a (b.alloc o):=⟨h.below.alloc hb o,h.others.alloc o⟩
theorem PF.drew {bp:Nat} {a b:World} (h:PF bp a b):PF bp a b.drew:=⟨h.below.drew,h.others.drew⟩
theorem PF.row {bp k:Nat} {a b:World} (h:PF bp a b) {cs:Array Value} {T:TypeId} {fr:Nat×Nat} (hk:a.heap[k]? =some (.cells cs T fr)) (hne:k≠bp) (hT:T≠5):b.heap[k]? =some (.cells cs T fr):=
 h.others k _ hk (fun e=>hne (Option.some.inj e)) (fun c fz e=>hT (by cases e;rfl))
section
variable {P:Program} {ops:Array Oper} {Q:Exit→Act→World→Prop} {md:Region.Mode} {X:List Nat} {S:World→Prop}
def GoodG (X:List Nat) (S:World→Prop) (listed:Array Bool) (w:World):Prop:=(∃x∈X,listed.getD x false=true)∨S w
def wpAnyG (P:Program) (md:Region.Mode) (ops:Array Oper) (Q:Exit→Act→World→Prop) (X:List Nat) (S:World→Prop):Nat→Array Bool→Act→World→Prop
 |0,listed,a,w=>Region.ready md ops listed=[]∧Q .normal a w
 |fuel+1,listed,a,w=>
  (Region.ready md ops listed=[]→Q .normal a w)∧
  ∀i∈Region.ready md ops listed,wpOp P ops Q i (fun a' w'=>GoodG X S (listed.setIfInBounds i true) w'∧wpAnyG P md ops Q X S fuel (listed.setIfInBounds i true) a' w') a w
theorem wpAny_of_G:∀(fuel:Nat) (listed:Array Bool) (a:Act) (w:World),wpAnyG P md ops Q X S fuel listed a w→wpAny P md ops Q fuel listed a w
 |0,_,_,_,h=>h
 |fuel+1,_,_,_,h=>⟨h.1,fun i hi=>wpOp_mono (fun a' w' h'=>wpAny_of_G fuel _ a' w' h'.2) (h.2 i hi)⟩
theorem wpAnyG_of_any {x:Nat} (hx:x∈X):∀(fuel:Nat) (listed:Array Bool) (a:Act) (w:World),listed.getD x false=true→wpAny P md ops Q fuel listed a w→wpAnyG P md ops Q X S fuel listed a w
 |0,_,_,_,_,h=>h
 |fuel+1,_,_,_,hl,h=>⟨h.1,fun i hi=>wpOp_mono (fun a' w' h'=>⟨.inl ⟨x,hx,getD_set_true hl⟩,wpAnyG_of_any hx fuel _ a' w' (getD_set_true hl) h'⟩) (h.2 i hi)⟩
def waits (md:Region.Mode) (ops:Array Oper) (X:List Nat) (i:Nat):Bool:=X.all fun x=>x !=i&&match ops[x]? with
 |some o=>o.after.any fun e=>Region.binds md e&&e.on==i
 |none=>false
theorem waits_spec {i x:Nat} (h:waits md ops X i=true) (hx:x∈X):x≠i∧∃o,ops[x]? =some o∧∃e∈o.after,Region.binds md e=true∧e.on=i:=by
 have:=List.all_eq_true.1 h x hx
 simp only[Bool.and_eq_true,bne_iff_ne,ne_eq] at this
 obtain⟨h1,h2⟩:=this
 cases ho:ops[x]? with
 |none=>rw[ho] at h2;cases h2
 |some o=>
  rw[ho] at h2
  obtain⟨e,he,hb⟩:=Array.any_eq_true'.1 h2
  simp only[Bool.and_eq_true,beq_iff_eq] at hb
  exact⟨h1,o,rfl,e,he,hb.1,hb.2⟩
theorem wpAnyG_first {i:Nat} {oi:Oper} {v:Value} (hi:ops[i]? =some oi) (hsel:∀(j:Nat) (o:Oper) cs b,ops[j]? =some o→o.op≠ .select cs b)
  (hQ:∀c a w,Q (.panic c) (a.put oi.dst v) w→Q (.panic c) a w) (hX:waits md ops X i=true):
  ∀(fuel:Nat) (listed:Array Bool) (a:Act) (w:World),
   (∀j oj,ops[j]? =some oj→j≠i→listed.getD j true=false→(∀e∈oj.after,Region.binds md e=true→e.on≠i)→oi.apart ops oj=true)→
   i∈Region.ready md ops listed→(∀x∈X,listed.getD x false=false)→YieldsIf P ops S oi v a→S w→
   wpAnyG P md ops Q X S fuel (listed.setIfInBounds i true) (a.put oi.dst v) w→wpAnyG P md ops Q X S (fuel+1) listed a w:=by
 intro fuel
 induction fuel with
 |zero=>
  intro listed a w _ hr _ hy hS H
  refine⟨fun h=>(by rw[h] at hr;cases hr),fun j hj=> ?_⟩
  by_cases hji:j=i
  ·subst hji;exact hy.wpOp hi hS ⟨.inr hS,H⟩
  ·have:=ready_mono hj hji
   rw[H.1] at this
   cases this
 |succ fuel ih=>
  intro listed a w hfree hr hno hy hS H
  refine⟨fun h=>(by rw[h] at hr;cases hr),fun j hj=> ?_⟩
  by_cases hji:j=i
  ·subst hji;exact hy.wpOp hi hS ⟨.inr hS,H⟩
  ·have h1:=H.2 j (ready_mono hj hji)
   obtain⟨hjun,oj,hoj,hall⟩:=mem_ready.1 hj
   have hnot:∀e∈oj.after,Region.binds md e=true→e.on≠i:=fun e he hb heq=>by
    have h1:=hall e he hb
    have h0:=(mem_ready.1 hr).1
    rw[heq] at h1
    rcases Nat.lt_or_ge i listed.size with h'|h'
    ·simp[h'] at h0 h1;rw[h0] at h1;cases h1
    ·simp[Array.getElem?_eq_none h'] at h1
   have hjX:j ∉ X:=fun hx=>by
    obtain⟨_,o,ho,e,he,hb,hon⟩:=waits_spec hX hx
    rw[hoj] at ho
    injection ho with ho
    subst ho
    exact hnot e he hb hon
   have hno':∀x∈X,(listed.setIfInBounds j true).getD x false=false:=fun x hx=>by
    have hjx:j≠x:=fun e=>hjX (by rw[e];exact hx)
    rw[getD_set_ne false hjx]
    exact hno x hx
   have h2:=wpOp_putIf hoj (hfree j oj hoj hji hjun hnot) (fun cs b=>hsel i oi cs b hi) (fun cs b=>hsel j oj cs b hoj) hQ hy h1
   have hfree':∀k ok,ops[k]? =some ok→k≠i→(listed.setIfInBounds j true).getD k true=false→
     (∀e∈ok.after,Region.binds md e=true→e.on≠i)→oi.apart ops ok=true:=fun k ok hk hki hun hno=>by
    refine hfree k ok hk hki ?_ hno
    by_cases hjk:j=k
    ·subst hjk;exact hjun
    ·rw[getD_set_ne true hjk] at hun;exact hun
   have hGS:∀w',GoodG X S ((listed.setIfInBounds i true).setIfInBounds j true) w'→S w':=fun w' hg=>by
    rcases hg with⟨x,hx,hxl⟩|hg
    ·have hjx:j≠x:=fun e=>hjX (by rw[e];exact hx)
     have hix:i≠x:=fun e=>(waits_spec hX hx).1 e.symm
     rw[getD_set_ne false hjx,getD_set_ne false hix,hno x hx] at hxl
     cases hxl
    ·exact hg
   refine wpOp_mono (fun a' w' h3=>⟨.inr (hGS _ h3.2.1),ih (listed.setIfInBounds j true) a' w' hfree' (ready_mono hr (Ne.symm hji)) hno' h3.1 (hGS _ h3.2.1) ?_⟩) h2
   rw[Array.setIfInBounds_comm _ _ hji]
   exact h3.2.2
theorem wpAnyG_take {i:Nat} {oi:Oper} {v:Value} {fuel:Nat} {listed:Array Bool} {a:Act} {w:World} (hi:ops[i]? =some oi)
  (hs:Region.noSelect ops=true) (hf:Region.free md ops listed i=true) (hr:(Region.ready md ops listed).contains i=true) (hX:waits md ops X i=true) (hno:(X.all fun x=>listed.getD x false==false)=true)
  (hQ:∀c a w,Q (.panic c) (a.put oi.dst v) w→Q (.panic c) a w) (hy:YieldsIf P ops S oi v a) (hS:S w)
  (h:wpAnyG P md ops Q X S fuel (listed.setIfInBounds i true) (a.put oi.dst v) w):wpAnyG P md ops Q X S (fuel+1) listed a w:=
 wpAnyG_first hi (Region.noSelect_spec hs) hQ hX fuel listed a w (Region.free_spec hi hf) (by simpa using hr) (fun x hx=>by simpa using List.all_eq_true.1 hno x hx) hy hS h
def AllReadyG (P:Program) (md:Region.Mode) (ops:Array Oper) (Q:Exit→Act→World→Prop) (X:List Nat) (S:World→Prop) (fuel:Nat) (listed:Array Bool) (a:Act) (w:World) (rs:List Nat):Prop:=
 ∀i∈rs,wpOp P ops Q i (fun a' w'=>GoodG X S (listed.setIfInBounds i true) w'∧wpAnyG P md ops Q X S fuel (listed.setIfInBounds i true) a' w') a w
theorem wpAnyG_ready {rs:List Nat} {fuel:Nat} {listed:Array Bool} {a:Act} {w:World} (hr:Region.ready md ops listed=rs) (hne:rs≠ [])
  (h:AllReadyG P md ops Q X S fuel listed a w rs):wpAnyG P md ops Q X S (fuel+1) listed a w:=
 ⟨fun h0=>absurd (hr▸h0) hne,hr▸h⟩
theorem AllReadyG.nil {fuel:Nat} {listed:Array Bool} {a:Act} {w:World}:AllReadyG P md ops Q X S fuel listed a w []:=fun _ h=>by cases h
theorem AllReadyG.cons {fuel:Nat} {listed:Array Bool} {a:Act} {w:World} {i:Nat} {o:Oper} {rs:List Nat} (ho:ops[i]? =some o)
  (h:∀K':Act→World→Prop,Shut (∀a w,S w→(S w→wpAnyG P md ops Q X S fuel (listed.setIfInBounds i true) a w)→K' a w)→if Region.wanted o (yielded ops a.tmps)=true then Oper.wp P o a w K' Q else K' (a.put o.dst undef) w)
  (hs:AllReadyG P md ops Q X S fuel listed a w rs):AllReadyG P md ops Q X S fuel listed a w (i::rs):=fun j hj=>by
 rcases List.mem_cons.1 hj with rfl|hj
 ·exact wpOp_step ho (fun K' hK=>h K' (fun a w hS hW=>hK a w ⟨.inr hS,hW hS⟩))
 ·exact hs j hj
theorem AllReadyG.last {fuel:Nat} {listed:Array Bool} {a:Act} {w:World} {i:Nat} {o:Oper} {rs:List Nat} (ho:ops[i]? =some o) (hi:i∈X) (hl:i<listed.size)
  (h:∀K':Act→World→Prop,Shut (∀a w,wpAny P md ops Q fuel (listed.setIfInBounds i true) a w→K' a w)→if Region.wanted o (yielded ops a.tmps)=true then Oper.wp P o a w K' Q else K' (a.put o.dst undef) w)
  (hs:AllReadyG P md ops Q X S fuel listed a w rs):AllReadyG P md ops Q X S fuel listed a w (i::rs):=fun j hj=>by
 have hg:(listed.setIfInBounds i true).getD i false=true:=by simp[hl]
 rcases List.mem_cons.1 hj with rfl|hj
 ·exact wpOp_step ho (fun K' hK=>h K' (fun a w hW=>hK a w ⟨.inl ⟨j,hi,hg⟩,wpAnyG_of_any hi fuel _ a w hg hW⟩))
 ·exact hs j hj
theorem wpAnyG_done {listed:Array Bool} {a:Act} {w:World} (hr:Region.ready md ops listed=[]) (h:Q .normal a w):∀fuel,wpAnyG P md ops Q X S fuel listed a w
 |0=>⟨hr,h⟩
 |_+1=>⟨fun _=>h,by rw[hr];simp⟩
theorem wp_region_G {id:Nat} {a:Act} {w:World} (X:List Nat) (S:World→Prop) (hm:P.follows .mixedOrders=true) (hS:S w.drew)
  (h:S w.drew→wpAnyG P .any ops Q X S ops.size (Array.replicate ops.size false) a w.drew):(Code.region id ops true).wp P Q a w:=
 wp_region_any hm (wpAny_of_G _ _ _ _ (h hS))
theorem wpAny_ready' {rs:List Nat} {fuel:Nat} {listed:Array Bool} {a:Act} {w:World} (hr:Region.ready md ops listed=rs) (hne:rs≠ [])
  (h:AllReady P md ops Q fuel listed a w rs):wpAny P md ops Q (fuel+1) listed a w:=wpAny_all hr hne h
theorem allReady_nil {fuel:Nat} {listed:Array Bool} {a:Act} {w:World}:AllReady P md ops Q fuel listed a w []:=fun _ h=>by cases h
theorem allReady_cons {fuel:Nat} {listed:Array Bool} {a:Act} {w:World} {i:Nat} {o:Oper} {rs:List Nat} (ho:ops[i]? =some o)
  (h:∀K':Act→World→Prop,Shut (∀a w,wpAny P md ops Q fuel (listed.setIfInBounds i true) a w→K' a w)→if Region.wanted o (yielded ops a.tmps)=true then Oper.wp P o a w K' Q else K' (a.put o.dst undef) w)
  (hs:AllReady P md ops Q fuel listed a w rs):AllReady P md ops Q fuel listed a w (i::rs):=fun j hj=>by
 rcases List.mem_cons.1 hj with rfl|hj
 ·exact wpOp_step ho (fun K' hK=>h K' (fun a w hW=>hK a w hW))
 ·exact hs j hj
end
section
variable {w:World} {g:Nat} {cs:Array Value} {t:TypeId} {fr:Nat×Nat}
theorem cr2 (w:World) (g:Nat) (h:w.heap[g]? =some (.cells cs t fr)):w.cell? ⟨g,0,none⟩=cs[0]? ∧w.cell? ⟨g,1,none⟩=cs[1]? :=⟨cell_of_row w g 0 _ _ _ h,cell_of_row w g 1 _ _ _ h⟩
theorem cr3 (w:World) (g:Nat) (h:w.heap[g]? =some (.cells cs t fr)):w.cell? ⟨g,0,none⟩=cs[0]? ∧w.cell? ⟨g,1,none⟩=cs[1]? ∧w.cell? ⟨g,2,none⟩=cs[2]? :=⟨cell_of_row w g 0 _ _ _ h,cell_of_row w g 1 _ _ _ h,cell_of_row w g 2 _ _ _ h⟩
theorem cr4 (w:World) (g:Nat) (h:w.heap[g]? =some (.cells cs t fr)):w.cell? ⟨g,0,none⟩=cs[0]? ∧w.cell? ⟨g,1,none⟩=cs[1]? ∧w.cell? ⟨g,2,none⟩=cs[2]? ∧w.cell? ⟨g,3,none⟩=cs[3]? :=⟨cell_of_row w g 0 _ _ _ h,cell_of_row w g 1 _ _ _ h,cell_of_row w g 2 _ _ _ h,cell_of_row w g 3 _ _ _ h⟩
theorem cr5 (w:World) (g:Nat) (h:w.heap[g]? =some (.cells cs t fr)):w.cell? ⟨g,0,none⟩=cs[0]? ∧w.cell? ⟨g,1,none⟩=cs[1]? ∧w.cell? ⟨g,2,none⟩=cs[2]? ∧w.cell? ⟨g,3,none⟩=cs[3]? ∧w.cell? ⟨g,4,none⟩=cs[4]? :=⟨cell_of_row w g 0 _ _ _ h,cell_of_row w g 1 _ _ _ h,cell_of_row w g 2 _ _ _ h,cell_of_row w g 3 _ _ _ h,cell_of_row w g 4 _ _ _ h⟩
theorem cr6 (w:World) (g:Nat) (h:w.heap[g]? =some (.cells cs t fr)):w.cell? ⟨g,0,none⟩=cs[0]? ∧w.cell? ⟨g,1,none⟩=cs[1]? ∧w.cell? ⟨g,2,none⟩=cs[2]? ∧w.cell? ⟨g,3,none⟩=cs[3]? ∧w.cell? ⟨g,4,none⟩=cs[4]? ∧w.cell? ⟨g,5,none⟩=cs[5]? :=⟨cell_of_row w g 0 _ _ _ h,cell_of_row w g 1 _ _ _ h,cell_of_row w g 2 _ _ _ h,cell_of_row w g 3 _ _ _ h,cell_of_row w g 4 _ _ _ h,cell_of_row w g 5 _ _ _ h⟩
end
section
variable {P:Program} {ops:Array Oper} {Q:Exit→Act→World→Prop} {md:Region.Mode} {X:List Nat} {S:World→Prop} {fuel:Nat} {listed:Array Bool} {a:Act} {w:World}
theorem tk (i:Nat) {oi:Oper} {v:Value} (hi:ops[i]? =some oi:=by rfl)
  (hs:Region.noSelect ops=true:=by kernel_rfl) (hf:Region.free md ops listed i=true:=by kernel_rfl) (hr:(Region.ready md ops listed).contains i=true:=by kernel_rfl) (hX:waits md ops X i=true:=by kernel_rfl) (hno:(X.all fun x=>listed.getD x false==false)=true:=by kernel_rfl)
  (hQ:∀c a w,Q (.panic c) (a.put oi.dst v) w→Q (.panic c) a w:=by exact fun _ _ _ h=>h) (hw:Region.wanted oi (yielded ops a.tmps)=true:=by rfl)
  (hv:∀w,S w→(execOp a.eval oi).run P w= .ok (.value v) w:=by(intro w hSw;(try dsimp only at hSw);(try simp only[nmC]);go_simp;try with_reducible rfl)) (hS:S w:=by assumption)
  (h:wpAnyG P md ops Q X S fuel (listed.setIfInBounds i true) (a.put oi.dst v) w):wpAnyG P md ops Q X S (fuel+1) listed a w:=
 wpAnyG_take hi hs hf hr hX hno hQ (.inl ⟨hw,hv⟩) hS h
theorem tu (i:Nat) {oi:Oper} (hi:ops[i]? =some oi:=by rfl)
  (hs:Region.noSelect ops=true:=by kernel_rfl) (hf:Region.free md ops listed i=true:=by kernel_rfl) (hr:(Region.ready md ops listed).contains i=true:=by kernel_rfl) (hX:waits md ops X i=true:=by kernel_rfl) (hno:(X.all fun x=>listed.getD x false==false)=true:=by kernel_rfl)
  (hQ:∀c a w,Q (.panic c) (a.put oi.dst undef) w→Q (.panic c) a w:=by exact fun _ _ _ h=>h) (hw:Region.wanted oi (yielded ops a.tmps)=false:=by rfl) (hS:S w:=by assumption)
  (h:wpAnyG P md ops Q X S fuel (listed.setIfInBounds i true) (a.put oi.dst undef) w):wpAnyG P md ops Q X S (fuel+1) listed a w:=
 wpAnyG_take hi hs hf hr hX hno hQ (.inr ⟨hw,rfl⟩) hS h
theorem rd1 (i:Nat) {o:Oper}
  (h:∀K':Act→World→Prop,Shut (∀a w,S w→(S w→wpAnyG P md ops Q X S fuel (listed.setIfInBounds i true) a w)→K' a w)→if Region.wanted o (yielded ops a.tmps)=true then Oper.wp P o a w K' Q else K' (a.put o.dst undef) w)
  (ho:ops[i]? =some o:=by rfl) (hr:Region.ready md ops listed=[i]:=by kernel_rfl):wpAnyG P md ops Q X S (fuel+1) listed a w:=
 wpAnyG_ready hr (by simp) (AllReadyG.cons ho h AllReadyG.nil)
theorem rd2 (i j:Nat) {o p:Oper}
  (h:∀K':Act→World→Prop,Shut (∀a w,S w→(S w→wpAnyG P md ops Q X S fuel (listed.setIfInBounds i true) a w)→K' a w)→if Region.wanted o (yielded ops a.tmps)=true then Oper.wp P o a w K' Q else K' (a.put o.dst undef) w)
  (k:∀K':Act→World→Prop,Shut (∀a w,S w→(S w→wpAnyG P md ops Q X S fuel (listed.setIfInBounds j true) a w)→K' a w)→if Region.wanted p (yielded ops a.tmps)=true then Oper.wp P p a w K' Q else K' (a.put p.dst undef) w)
  (ho:ops[i]? =some o:=by rfl) (hp:ops[j]? =some p:=by rfl) (hr:Region.ready md ops listed=[i,j]:=by kernel_rfl):wpAnyG P md ops Q X S (fuel+1) listed a w:=
 wpAnyG_ready hr (by simp) (AllReadyG.cons ho h (AllReadyG.cons hp k AllReadyG.nil))
theorem rl1 (i:Nat) {o:Oper}
  (h:∀K':Act→World→Prop,Shut (∀a w,wpAny P md ops Q fuel (listed.setIfInBounds i true) a w→K' a w)→if Region.wanted o (yielded ops a.tmps)=true then Oper.wp P o a w K' Q else K' (a.put o.dst undef) w)
  (ho:ops[i]? =some o:=by rfl) (hi:i∈X:=by decide) (hl:i<listed.size:=by decide) (hr:Region.ready md ops listed=[i]:=by kernel_rfl):wpAnyG P md ops Q X S (fuel+1) listed a w:=
 wpAnyG_ready hr (by simp) (AllReadyG.last ho hi hl h AllReadyG.nil)
theorem tq (i:Nat) {oi:Oper} {v:Value} (hi:ops[i]? =some oi:=by rfl)
  (hs:Region.noSelect ops=true:=by kernel_rfl) (hf:Region.free md ops listed i=true:=by kernel_rfl) (hr:(Region.ready md ops listed).contains i=true:=by kernel_rfl)
  (hQ:∀c a w,Q (.panic c) (a.put oi.dst v) w→Q (.panic c) a w:=by exact fun _ _ _ h=>h) (hw:Region.wanted oi (yielded ops a.tmps)=true:=by rfl)
  (hv:∀w,(execOp a.eval oi).run P w= .ok (.value v) w:=by(intro w;(try simp only[nmC]);go_simp;try with_reducible rfl))
  (h:wpAny P md ops Q fuel (listed.setIfInBounds i true) (a.put oi.dst v) w):wpAny P md ops Q (fuel+1) listed a w:=
 wpAny_take hi hs hf hr hQ (.inl ⟨hw,hv⟩) h
end
abbrev Tab:=List (Nat×List UInt8)
def topOf:List UInt8→Int
 | []=>0
 |c::_=>c.toNat
def belowOf (T:Tab):List UInt8→Value→Prop
 | [],v=>v= .pointer none
 |_::r,v=>∃b,v= .pointer (some ⟨b,0,none⟩)∧(b,r)∈T
def OnIs (T:Tab) (s:List UInt8) (c:UInt8) (v:Value):Prop:=(v= .pointer none∧∀b,(b,c::s) ∉ T)∨∃b,v= .pointer (some ⟨b,0,none⟩)∧(b,c::s)∈T
def NodeAt (ty:TypeId) (T:Tab) (w:World) (b:Nat) (s:List UInt8):Prop:=∃bl o0 o1 o2,w.heap[b]? =some (.cells #[.int .u8 (topOf s),bl,.int .i64 s.length,o0,o1,o2] ty (0,0))∧belowOf T s bl∧OnIs T s 118 o0∧OnIs T s 112 o1∧OnIs T s 116 o2
structure Stk (ty:TypeId) (w:World) (B:Nat) (T:Tab):Prop where
 node:∀b s,(b,s)∈T→B≤b∧b<w.heap.size∧NodeAt ty T w b s
 one:∀b b' s,(b,s)∈T→(b',s)∈T→b=b'
 same:∀b s s',(b,s)∈T→(b,s')∈T→s=s'
section
variable {ty:TypeId} {w w':World} {B:Nat} {T:Tab}
theorem Stk.keep (h:Stk ty w B T) (hk:∀b s,(b,s)∈T→w'.heap[b]? =w.heap[b]?):Stk ty w' B T:=by
 refine⟨fun b s hb=> ?_,h.one,h.same⟩
 obtain⟨h1,h2,bl,o0,o1,o2,h3,h4⟩:=h.node b s hb
 have e:=(hk b s hb).trans h3
 refine⟨h1, ?_,bl,o0,o1,o2,e,h4⟩
 rcases Nat.lt_or_ge b w'.heap.size with hlt|hge
 ·exact hlt
 ·rw[Array.getElem?_eq_none (by exact hge)] at e;cases e
theorem Stk.down (h:Stk ty w B T) {b:Nat} {c:UInt8} {s:List UInt8} (hb:(b,c::s)∈T):∃b',(b',s)∈T:=by
 obtain⟨_,_,_,_,_,_,_,⟨b',_,hb'⟩,_⟩:=h.node b _ hb
 exact⟨b',hb'⟩
theorem cons_ne (c:UInt8) (s:List UInt8):c::s≠s:=fun e=>by
 have:=congrArg List.length e
 simp at this
theorem OnIs.other {s s':List UInt8} {c c':UInt8} {v:Value} {g:Nat} (h:OnIs T s' c' v) (hne:c'::s'≠c::s):OnIs ((g,c::s)::T) s' c' v:=by
 rcases h with⟨h1,h2⟩|⟨b,h1,h2⟩
 ·refine .inl ⟨h1,fun b hb=> ?_⟩
  rcases List.mem_cons.1 hb with e|hb
  ·injection e with _ e;exact hne e
  ·exact h2 b hb
 ·exact .inr ⟨b,h1,.tail _ h2⟩
theorem belowOf.more {s:List UInt8} {v:Value} {x:Nat×List UInt8} (h:belowOf T s v):belowOf (x::T) s v:=by
 cases s with
 |nil=>exact h
 |cons c r=>obtain⟨b,h1,h2⟩:=h;exact⟨b,h1,.tail _ h2⟩
theorem Stk.add (h:Stk ty w B T) {b g:Nat} {c:UInt8} {s:List UInt8} (hb:(b,s)∈T) (hno:∀b',(b',c::s) ∉ T) (hg:∀s',(g,s') ∉ T) (hB:B≤g) (hsz:g<w'.heap.size)
  (hnew:w'.heap[g]? =some (.cells #[.int .u8 c.toNat,.pointer (some ⟨b,0,none⟩),.int .i64 (s.length+1:Nat),.pointer none,.pointer none,.pointer none] ty (0,0)))
  (hold:∃bl o0 o1 o2,w.heap[b]? =some (.cells #[.int .u8 (topOf s),bl,.int .i64 s.length,o0,o1,o2] ty (0,0))∧
   ((c=118∧w'.heap[b]? =some (.cells #[.int .u8 (topOf s),bl,.int .i64 s.length,.pointer (some ⟨g,0,none⟩),o1,o2] ty (0,0)))∨
    (c=112∧w'.heap[b]? =some (.cells #[.int .u8 (topOf s),bl,.int .i64 s.length,o0,.pointer (some ⟨g,0,none⟩),o2] ty (0,0)))∨
    (c=116∧w'.heap[b]? =some (.cells #[.int .u8 (topOf s),bl,.int .i64 s.length,o0,o1,.pointer (some ⟨g,0,none⟩)] ty (0,0)))))
  (hrest:∀b' s',(b',s')∈T→b'≠b→w'.heap[b']? =w.heap[b']?):Stk ty w' B ((g,c::s)::T):=by
 have hin:(g,c::s)∈(g,c::s)::T:=List.mem_cons_self ..
 refine⟨fun b' s' hb'=> ?_,fun b1 b2 s' h1 h2=> ?_,fun b1 s1 s2 h1 h2=> ?_⟩
 ·rcases List.mem_cons.1 hb' with e|hm
  all_goals clear hb'
  ·injection e with e1 e2
   subst e1;subst e2
   refine⟨hB,hsz,_,_,_,_,hnew,⟨b,rfl,.tail _ hb⟩, ?_, ?_, ?_⟩<;>
   ·refine .inl ⟨rfl,fun b2 h2=> ?_⟩
    rcases List.mem_cons.1 h2 with e|h2
    ·injection e with _ e;exact cons_ne _ _ e
    ·obtain⟨b3,h3⟩:=h.down h2;exact hno b3 h3
  ·by_cases hbb:b'=b
   ·subst hbb
    obtain rfl:=h.same _ _ _ hm hb
    obtain⟨h1,h2,bl,o0,o1,o2,h3,h4,h5,h6,h7⟩:=h.node _ _ hm
    obtain⟨bl',o0',o1',o2',k0,k1⟩:=hold
    rw[h3] at k0
    injection k0 with k0
    injection k0 with k0 _ _
    simp only[Array.mk.injEq,List.cons.injEq,true_and,and_true] at k0
    obtain⟨rfl,rfl,rfl,rfl⟩:=k0
    have hlt:b'<w'.heap.size:=by
     rcases Nat.lt_or_ge b' w'.heap.size with hlt|hge
     ·exact hlt
     ·exfalso
      rcases k1 with⟨_,k⟩|⟨_,k⟩|⟨_,k⟩<;>
      ·rw[Array.getElem?_eq_none (by exact hge)] at k;cases k
    refine⟨h1,hlt, ?_⟩
    rcases k1 with⟨rfl,k⟩|⟨rfl,k⟩|⟨rfl,k⟩
    ·exact⟨_,_,_,_,k,h4.more,.inr ⟨g,rfl,hin⟩,h6.other (by simp),h7.other (by simp)⟩
    ·exact⟨_,_,_,_,k,h4.more,h5.other (by simp),.inr ⟨g,rfl,hin⟩,h7.other (by simp)⟩
    ·exact⟨_,_,_,_,k,h4.more,h5.other (by simp),h6.other (by simp),.inr ⟨g,rfl,hin⟩⟩
   ·obtain⟨h1,h2,bl,o0,o1,o2,h3,h4,h5,h6,h7⟩:=h.node _ _ hm
    have e:=(hrest b' s' hm hbb).trans h3
    have hs:s'≠s:=fun e=>hbb (h.one _ _ _ (e▸hm) hb)
    refine⟨h1, ?_,bl,o0,o1,o2,e,h4.more,h5.other ?_,h6.other ?_,h7.other ?_⟩
    ·rcases Nat.lt_or_ge b' w'.heap.size with hlt|hge
     ·exact hlt
     ·rw[Array.getElem?_eq_none (by exact hge)] at e;cases e
    all_goals (intro e;injection e with _ e;exact hs e)
 ·rcases List.mem_cons.1 h1 with e1|h1<;>rcases List.mem_cons.1 h2 with e2|h2
  ·injection e1 with e1 _;injection e2 with e2 _;rw[e1,e2]
  ·injection e1 with e1 e3;rw[e3] at h2;exact absurd h2 (hno b2)
  ·injection e2 with e2 e3;rw[e3] at h1;exact absurd h1 (hno b1)
  ·exact h.one _ _ _ h1 h2
 ·rcases List.mem_cons.1 h1 with e1|h1<;>rcases List.mem_cons.1 h2 with e2|h2
  ·injection e1 with _ e1;injection e2 with _ e2;rw[e1,e2]
  ·injection e1 with e1 _;rw[e1] at h2;exact absurd h2 (hg s2)
  ·injection e2 with e2 _;rw[e2] at h1;exact absurd h1 (hg s1)
  ·exact h.same _ _ _ h1 h2
theorem Stk.eq (h:Stk ty w B T) {b b':Nat} {s s':List UInt8} (hb:(b,s)∈T) (hb':(b',s')∈T):(b=b')=(s=s'):=
 propext ⟨fun e=>h.same b s s' hb (e▸hb'),fun e=>h.one b b' s hb (e▸hb')⟩
end
theorem Index_list (xs:List ByteArray) (b cap:Nat) (t:TypeId) (fr:Nat×Nat) (s:ByteArray) (w:World) (hrow:w.heap[b]? =some (.cells (xs.map Value.string).toArray t fr)) (hx:xs.length≤140737488351232):
  Calls Tryz.prog 156 #[.slice (some ⟨b,0,none⟩) xs.length cap,.string s] w fun e w'=>e= .returned (.int .i64 (idxFrom xs s 0))∧w'=w:=by
 have hcell:∀(j:Nat) (x:ByteArray),xs[j]? =some x→w.cell? ⟨b,j,none⟩=some (.string x):=fun j x hj=>by
  rw[cell_of_row w b j _ _ _ hrow]
  simp[hj]
 have HC:=Lib.hid hcell
 clear hcell hrow
 obtain⟨n,hn⟩:∃n,xs.length=n:=⟨_,rfl⟩
 have HL:=Lib.hid hn
 rw[hn] at hx⊢
 clear hn
 go_enter Tryz.func156,Tryz.ntmps156
 go_wp2
 go_loopw [8] (fun i wr=>∃j:Nat,j≤n∧i= .int .i64 j∧wr=w∧Hid (idxFrom (xs.drop j) s j=idxFrom xs s 0)) (fun i _=>n-(intOf i).toNat)
 case atStart=>exact⟨0,by omega,rfl,rfl,rfl⟩
 case round=>
  obtain⟨j,hj,rfl,rfl,HI⟩:=hrel
  by_cases hlt:j<n
  ·obtain⟨x,hx⟩:∃x,xs[j]? =some x:=⟨_,List.getElem?_eq_getElem (by rw[HL.out];exact hlt)⟩
   have hc:=HC.out j x hx
   have HX:=Lib.hid hx
   clear hx
   go_wp2
   ·go_ret
    refine⟨ret_int ?_,rfl⟩
    rw[←HI.out,drop_cons HX.out,idxFrom,if_pos (by assumption)]
   ·go_roundw
    case rel=>
     refine⟨j+1,by omega,by go_num,trivial, ?_⟩
     show _=_
     rw[←HI.out,drop_cons HX.out,idxFrom,if_neg (by simp[*])]
     simp
    case measure=>simp[intOf];omega
  ·obtain rfl:j=n:=by omega
   go_wp2
   go_ret
   refine⟨ret_int ?_,rfl⟩
   rw[←HI.out,List.drop_of_length_le (by rw[HL.out];exact Nat.le_refl _)]
   rfl
theorem Contains_list (xs:List ByteArray) (b cap:Nat) (t:TypeId) (fr:Nat×Nat) (s:ByteArray) (w:World) (hrow:w.heap[b]? =some (.cells (xs.map Value.string).toArray t fr)) (hx:xs.length≤140737488351232):
  Calls Tryz.prog 116 #[.slice (some ⟨b,0,none⟩) xs.length cap,.string s] w fun e w'=>e= .returned (.bool (xs.any (fun x=>s.toList==x.toList)))∧w'=w:=by
 have HR:=Lib.hid hrow
 clear hrow
 have HW:Hid (decide (0≤idxFrom xs s 0)=xs.any (fun x=>s.toList==x.toList)):=idxFrom_word _ _ _ (Int.le_refl _)
 go_enter Tryz.func116,Tryz.ntmps116
 go_wp2_with (go_at_call 156;refine(Index_list xs b cap t fr s _ HR.out hx).mono ?_;rintro e w' ⟨rfl,rfl⟩)
 go_ret
 exact⟨ret_bool HW.out,rfl⟩
def HeapL (l:List Int) (n:Nat):Prop:=∀i,0<i→i<n→l.getD ((i-1)/2) 0≤l.getD i 0
theorem swap_get (l:List Int) {i j:Nat} (hi:i<l.length) (hj:j<l.length) (k:Nat):(swapL l i j).getD k 0=if k=j then l.getD i 0 else if k=i then l.getD j 0 else l.getD k 0:=by
 unfold swapL
 simp only[List.getD_eq_getElem?_getD,List.getElem?_set,List.length_set]
 by_cases h1:k=j
 ·subst h1
  simp[hj]
 ·rw[if_neg (fun e=>h1 e.symm),if_neg h1]
  by_cases h2:k=i
  ·subst h2
   simp[hi]
  ·rw[if_neg (fun e=>h2 e.symm),if_neg h2]
theorem upL_heap:∀(f:Nat) (l:List Int) (j:Nat),j<f→j<l.length→(∀i,0<i→i<l.length→i≠j→l.getD ((i-1)/2) 0≤l.getD i 0)→(∀i,0<i→i<l.length→(i-1)/2=j→0<j→l.getD ((j-1)/2) 0≤l.getD i 0)→
  HeapL (upL f l j) l.length∧(upL f l j).length=l.length
 |0,_,_,h,_,_,_=>by omega
 |f+1,l,j,hf,hj,h1,h2=>by
  rw[upL]
  by_cases h0:(j-1)/2=j∨¬l.getD j 0<l.getD ((j-1)/2) 0
  ·rw[if_pos h0]
   refine⟨fun i hi hl=> ?_,rfl⟩
   by_cases hij:i=j
   ·subst hij
    rcases h0 with h|h
    ·omega
    ·omega
   ·exact h1 i hi hl hij
  ·rw[if_neg h0]
   obtain⟨p,hp⟩:∃p,(j-1)/2=p:=⟨_,rfl⟩
   rw[hp] at h0 h2⊢
   have hpj:p<j:=by omega
   have hlt:l.getD j 0<l.getD p 0:=by omega
   have hpl:p<l.length:=by omega
   have sg:=swap_get l hpl hj
   have ih:=upL_heap f (swapL l p j) p (by omega) (by rw[swap_len];exact hpl) ?_ ?_
   ·rw[swap_len] at ih
    exact ih
   ·intro i hi hl hip
    rw[swap_len] at hl
    rw[sg,sg]
    by_cases hij:i=j
    ·subst hij
     rw[hp,if_neg (by omega),if_pos rfl,if_pos rfl]
     omega
    ·rw[if_neg hij,if_neg hip]
     by_cases hq:(i-1)/2=j
     ·rw[if_pos hq]
      exact h2 i hi hl hq (by omega)
     ·rw[if_neg hq]
      have h3:=h1 i hi hl hij
      by_cases hq2:(i-1)/2=p
      ·rw[if_pos hq2]
       rw[hq2] at h3
       omega
      ·rw[if_neg hq2]
       exact h3
   ·intro i hi hl hip h0p
    rw[swap_len] at hl
    rw[sg,sg]
    have h4:=h1 p h0p hpl (by omega)
    rw[if_neg (by omega),if_neg (by omega)]
    by_cases hij:i=j
    ·subst hij
     rw[if_pos rfl]
     exact h4
    ·rw[if_neg hij,if_neg (by omega)]
     have h3:=h1 i hi hl hij
     rw[hip] at h3
     omega
theorem downL_heap:∀(f:Nat) (l:List Int) (i n:Nat),n≤i+f→n≤l.length→(∀c,0<c→c<n→(c-1)/2≠i→l.getD ((c-1)/2) 0≤l.getD c 0)→(∀c,0<c→c<n→(c-1)/2=i→0<i→l.getD ((i-1)/2) 0≤l.getD c 0)→
  HeapL (downL f l i n) n∧(downL f l i n).length=l.length∧∀k,n≤k→(downL f l i n).getD k 0=l.getD k 0
 |0,l,i,n,hf,hn,h1,h2=>by
  refine⟨fun c hc hl=> ?_,rfl,fun k _=>rfl⟩
  exact h1 c hc hl (by omega)
 |f+1,l,i,n,hf,hn,h1,h2=>by
  rw[downL]
  by_cases h0:n≤2*i+1
  ·rw[if_pos h0]
   exact⟨fun c hc hl=>h1 c hc hl (by omega),rfl,fun k _=>rfl⟩
  ·rw[if_neg h0]
   obtain⟨j,hj⟩:∃j,(if 2*i+2<n∧l.getD (2*i+2) 0<l.getD (2*i+1) 0 then 2*i+2 else 2*i+1)=j:=⟨_,rfl⟩
   have hjc:(j=2*i+1∨j=2*i+2)∧j<n∧∀c,c<n→(c=2*i+1∨c=2*i+2)→l.getD j 0≤l.getD c 0:=by
    rw[←hj]
    split
    ·rename_i h
     refine⟨.inr rfl,h.1,fun c hc he=> ?_⟩
     rcases he with rfl|rfl
     ·omega
     ·exact Int.le_refl _
    ·rename_i h
     refine⟨.inl rfl,by omega,fun c hc he=> ?_⟩
     rcases he with rfl|rfl
     ·exact Int.le_refl _
     ·omega
   simp only[hj]
   obtain⟨hj1,hjn,hjm⟩:=hjc
   by_cases hlt:l.getD j 0<l.getD i 0
   ·rw[if_pos hlt]
    have hil:i<l.length:=by omega
    have hjl:j<l.length:=by omega
    have sg:=swap_get l hil hjl
    have ih:=downL_heap f (swapL l i j) j n (by omega) (by rw[swap_len];exact hn) ?_ ?_
    ·obtain⟨a,b,c⟩:=ih
     refine⟨a,by rw[b,swap_len],fun k hk=> ?_⟩
     rw[c k hk,sg,if_neg (by omega),if_neg (by omega)]
    ·intro c hc hl hcj
     rw[sg,sg]
     by_cases hci:(c-1)/2=i
     ·rw[hci,if_neg (by omega),if_pos rfl]
      by_cases hcj2:c=j
      ·rw[if_pos hcj2];omega
      ·rw[if_neg hcj2,if_neg (by omega)]
       exact hjm c hl (by omega)
     ·rw[if_neg hcj,if_neg hci]
      by_cases hcj2:c=j
      ·omega
      ·rw[if_neg hcj2]
       have h3:=h1 c hc hl hci
       by_cases hc2:c=i
       ·rw[if_pos hc2]
        have h4:=h2 j (by omega) hjn (by omega) (by omega)
        rw[hc2]
        exact h4
       ·rw[if_neg hc2]
        exact h3
    ·intro c hc hl hcj h0j
     rw[sg,sg]
     have hji:(j-1)/2=i:=by omega
     rw[hji,if_neg (by omega),if_pos rfl,if_neg (by omega),if_neg (by omega)]
     have h3:=h1 c hc hl (by omega)
     rw[hcj] at h3
     exact h3
   ·rw[if_neg hlt]
    refine⟨fun c hc hl=> ?_,rfl,fun k _=>rfl⟩
    by_cases hci:(c-1)/2=i
    ·rw[hci]
     have:=hjm c hl (by omega)
     omega
    ·exact h1 c hc hl hci
theorem heap_min {l:List Int} {n:Nat} (h:HeapL l n):∀i,i<n→l.getD 0 0≤l.getD i 0:=by
 intro i
 induction i using Nat.strongRecOn with
 |_ i ih=>
  intro hi
  by_cases h0:i=0
  ·subst h0;exact Int.le_refl _
  ·have h1:=h i (by omega) hi
   have h2:=ih ((i-1)/2) (by omega) (by omega)
   omega
theorem pushL_heap {l:List Int} (h:HeapL l l.length) (n:Int):HeapL (pushL l n) (pushL l n).length:=by
 have ha:∀i,i<l.length→(l++ [n]).getD i 0=l.getD i 0:=fun i hi=>by
  simp only[List.getD_eq_getElem?_getD,List.getElem?_append_left hi]
 obtain⟨a,b⟩:=upL_heap (l.length+1) (l++ [n]) l.length (by omega) (by simp) (fun i hi hl hne=>by
   have hl:i<l.length:=by simp at hl;omega
   rw[ha i hl,ha _ (by omega)]
   exact h i hi hl) (fun i hi hl he h0=>by simp at hl;omega)
 unfold pushL
 rw[b]
 exact a
theorem popL_heap {l:List Int} (h:HeapL l l.length) (hl:l≠ []):(popL l).1=l.getD 0 0∧(∀i,i<l.length→(popL l).1≤l.getD i 0)∧HeapL (popL l).2 (popL l).2.length:=by
 have h0:0<l.length:=List.length_pos_iff.2 hl
 have sg:=swap_get l h0 (show l.length-1<l.length by omega)
 obtain⟨a,b,c⟩:=downL_heap l.length (swapL l 0 (l.length-1)) 0 (l.length-1) (by omega) (by rw[swap_len];omega) (fun c hc hcl hp=>by
   rw[sg,sg,if_neg (by omega),if_neg hp,if_neg (by omega),if_neg (by omega)]
   exact h c hc (by omega)) (fun c _ _ _ h=>by omega)
 have e1:(popL l).1=l.getD 0 0:=by
  unfold popL
  simp only
  rw[c _ (Nat.le_refl _),sg,if_pos rfl]
 refine⟨e1,fun i hi=>by rw[e1];exact heap_min h i hi, ?_⟩
 have e2:(popL l).2=(downL l.length (swapL l 0 (l.length-1)) 0 (l.length-1)).take (l.length-1):=rfl
 have hlen:(popL l).2.length=l.length-1:=by rw[e2,List.length_take,b,swap_len];omega
 rw[hlen]
 intro i hi hil
 have hg:∀k,k<l.length-1→(popL l).2.getD k 0=(downL l.length (swapL l 0 (l.length-1)) 0 (l.length-1)).getD k 0:=fun k hk=>by
  rw[e2]
  simp only[List.getD_eq_getElem?_getD,List.getElem?_take,if_pos hk]
 rw[hg i hil,hg _ (by omega)]
 exact a i hi hil
end Go.Proofs.YtagnicbknbmccaaGreatDoor
