/- A frame: every block below a bound but some lies as it lay. Regions that draw their order: a load may be taken first though an operation that waits for it writes its cell. Short forms that the walks use: a step of a region each; the cells of a row. slices.Contains of texts. -/
import Derived.Deep.RegionHeld
import Derived.Deep.RegionHeld3
import Derived.Test.YtagnicbknbmccaaGreatDoorMLex1
import Derived.Test.YtagnicbknbmccaaGreatDoorSqC
set_option maxRecDepth 100000
namespace Go.Proofs.YtagnicbknbmccaaGreatDoor
open Go.RowKit
structure Foot (B:Nat) (g:Nat→Prop) (w w':World):Prop where
 os:w'.os=w.os
 tape:w'.tape=w.tape
 output:w'.output=w.output
 size:w.heap.size≤w'.heap.size
 block:∀k,k<B→¬g k→w'.heap[k]? =w.heap[k]?
theorem Foot.refl (B:Nat) (g:Nat→Prop) (w:World):Foot B g w w:=⟨rfl,rfl,rfl,Nat.le_refl _,fun _ _ _=>rfl⟩
theorem Foot.trans {B:Nat} {g:Nat→Prop} {a b c:World} (h:Foot B g a b) (k:Foot B g b c):Foot B g a c:=
 ⟨k.os.trans h.os,k.tape.trans h.tape,k.output.trans h.output,Nat.le_trans h.size k.size,fun i hi hg=>(k.block i hi hg).trans (h.block i hi hg)⟩
theorem Foot.mono {B B':Nat} {g g':Nat→Prop} {a b:World} (h:Foot B g a b) (hB:B'≤B) (hg:∀k,k<B'→g k→g' k):Foot B' g' a b:=⟨h.os,h.tape,h.output,h.size,fun i hi hn=>h.block i (by omega) (fun e=>hn (hg i hi e))⟩
theorem Foot.of {B:Nat} {g:Nat→Prop} {a b:World} (h:Below B a b):Foot B g a b:=⟨h.os,h.tape,h.output,h.size,fun i hi _=>h.block i hi⟩
theorem Foot.to {B C:Nat} {g:Nat→Prop} {a b:World} (h:Foot B g a b) (hC:C≤B) (hg:∀k,g k→C≤k):Below C a b:=⟨h.os,h.tape,h.output,h.size,fun i hi=>h.block i (by omega) (fun e=>by have:=hg i e;omega)⟩
theorem Foot.set {B:Nat} {g:Nat→Prop} {a b:World} (h:Foot B g a b) {p:Addr} (hp:B≤p.block∨g p.block) (v:Value):Foot B g a (b.setCell p v):=
 ⟨h.os,h.tape,h.output,by simpa using h.size,fun k hk hg=>(Below.heap_setCell b p v k (fun e=>by subst e;exact hp.elim (fun h=>by omega) hg)).trans (h.block k hk hg)⟩
theorem Foot.alloc {B:Nat} {g:Nat→Prop} {a b:World} (h:Foot B g a b) (hB:B≤b.heap.size) (o:Obj):Foot B g a (b.alloc o):=
 ⟨h.os,h.tape,h.output,by have:=h.size;simp;omega,fun k hk hg=>(Below.heap_alloc b o k (by omega)).trans (h.block k hk hg)⟩
theorem Foot.grown {B:Nat} {g:Nat→Prop} {a b c:World} {row:Option Nat} (h:Foot B g a b) (hg:b.grownBy c row) (hB:B≤b.heap.size) (hr:∀k,row=some k→B≤k):Foot B g a c:=
 ⟨hg.os.trans h.os,hg.tape.trans h.tape,hg.output.trans h.output,Nat.le_trans h.size hg.size,fun k hk hne=>(hg.block k (by omega) (fun e=>by have:=hr k e.symm;omega)).trans (h.block k hk hne)⟩
theorem Foot.cell {B:Nat} {g:Nat→Prop} {w w':World} (h:Foot B g w w') {p:Addr} (hp:p.block<B) (hne:¬g p.block):w'.cell? p=w.cell? p:=World.cell?_of_block (w:=w) (h.block p.block hp hne)
section
variable {P:Program} {ops:Array Oper} {Q:Exit→Act→World→Prop} {md:Region.Mode} {X:List Nat} {S:World→Prop}
def GoodG (X:List Nat) (S:World→Prop) (listed:Array Bool) (w:World):Prop:=(∃x∈X,listed.getD x false=true)∨S w
def wpAnyG (P:Program) (md:Region.Mode) (ops:Array Oper) (Q:Exit→Act→World→Prop) (X:List Nat) (S:World→Prop):Nat→Array Bool→Act→World→Prop
 |0,listed,a,w=>Region.ready md ops listed=[]∧Q .normal a w
 |fuel+1,listed,a,w=>
  (Region.ready md ops listed=[]→Q .normal a w)∧
  ∀i∈Region.ready md ops listed,wpOp P ops Q i (fun a' w'=>GoodG X S (listed.setIfInBounds i true) w'∧wpAnyG P md ops Q X S fuel (listed.setIfInBounds i true) a' w') a w
theorem wpAny_of_G:∀(fuel:Nat) (listed:Array Bool) (a:Act) (w:World),wpAnyG P md ops Q X S fuel listed a w→wpAny P md ops Q fuel listed a w
 |0,_,_,_,h=>h
 |fuel+1,_,_,_,h=>⟨h.1,fun i hi=>wpOp_mono (fun a' w' h'=>wpAny_of_G fuel _ a' w' h'.2) (h.2 i hi)⟩
theorem wpAnyG_of_any {x:Nat} (hx:x∈X):∀(fuel:Nat) (listed:Array Bool) (a:Act) (w:World),listed.getD x false=true→wpAny P md ops Q fuel listed a w→wpAnyG P md ops Q X S fuel listed a w
 |0,_,_,_,_,h=>h
 |fuel+1,_,_,_,hl,h=>⟨h.1,fun i hi=>wpOp_mono (fun a' w' h'=>⟨.inl ⟨x,hx,getD_set_true hl⟩,wpAnyG_of_any hx fuel _ a' w' (getD_set_true hl) h'⟩) (h.2 i hi)⟩
def waits (md:Region.Mode) (ops:Array Oper) (X:List Nat) (i:Nat):Bool:=X.all fun x=>x !=i&&match ops[x]? with
 |some o=>o.after.any fun e=>Region.binds md e&&e.on==i
 |none=>false
theorem waits_spec {i x:Nat} (h:waits md ops X i=true) (hx:x∈X):x≠i∧∃o,ops[x]? =some o∧∃e∈o.after,Region.binds md e=true∧e.on=i:=by
 have:=List.all_eq_true.1 h x hx
 simp only[Bool.and_eq_true,bne_iff_ne,ne_eq] at this
 obtain⟨h1,h2⟩:=this
 cases ho:ops[x]? with
 |none=>rw[ho] at h2;cases h2
 |some o=>
  rw[ho] at h2
  obtain⟨e,he,hb⟩:=Array.any_eq_true'.1 h2
  simp only[Bool.and_eq_true,beq_iff_eq] at hb
  exact⟨h1,o,rfl,e,he,hb.1,hb.2⟩
theorem wpAnyG_first {i:Nat} {oi:Oper} {v:Value} (hi:ops[i]? =some oi) (hsel:∀(j:Nat) (o:Oper) cs b,ops[j]? =some o→o.op≠ .select cs b)
  (hQ:∀c a w,Q (.panic c) (a.put oi.dst v) w→Q (.panic c) a w) (hX:waits md ops X i=true):
  ∀(fuel:Nat) (listed:Array Bool) (a:Act) (w:World),
   (∀j oj,ops[j]? =some oj→j≠i→listed.getD j true=false→(∀e∈oj.after,Region.binds md e=true→e.on≠i)→oi.apart ops oj=true)→
   i∈Region.ready md ops listed→(∀x∈X,listed.getD x false=false)→YieldsIf P ops S oi v a→S w→
   wpAnyG P md ops Q X S fuel (listed.setIfInBounds i true) (a.put oi.dst v) w→wpAnyG P md ops Q X S (fuel+1) listed a w:=by
 intro fuel
 induction fuel with
 |zero=>
  intro listed a w _ hr _ hy hS H
  refine⟨fun h=>(by rw[h] at hr;cases hr),fun j hj=> ?_⟩
  by_cases hji:j=i
  ·subst hji;exact hy.wpOp hi hS ⟨.inr hS,H⟩
  ·have:=ready_mono hj hji
   rw[H.1] at this
   cases this
 |succ fuel ih=>
  intro listed a w hfree hr hno hy hS H
  refine⟨fun h=>(by rw[h] at hr;cases hr),fun j hj=> ?_⟩
  by_cases hji:j=i
  ·subst hji;exact hy.wpOp hi hS ⟨.inr hS,H⟩
  ·have h1:=H.2 j (ready_mono hj hji)
   obtain⟨hjun,oj,hoj,hall⟩:=mem_ready.1 hj
   have hnot:∀e∈oj.after,Region.binds md e=true→e.on≠i:=fun e he hb heq=>by
    have h1:=hall e he hb
    have h0:=(mem_ready.1 hr).1
    rw[heq] at h1
    rcases Nat.lt_or_ge i listed.size with h'|h'
    ·simp[h'] at h0 h1;rw[h0] at h1;cases h1
    ·simp[Array.getElem?_eq_none h'] at h1
   have hjX:j ∉ X:=fun hx=>by
    obtain⟨_,o,ho,e,he,hb,hon⟩:=waits_spec hX hx
    rw[hoj] at ho
    injection ho with ho
    subst ho
    exact hnot e he hb hon
   have hno':∀x∈X,(listed.setIfInBounds j true).getD x false=false:=fun x hx=>by
    have hjx:j≠x:=fun e=>hjX (by rw[e];exact hx)
    rw[getD_set_ne false hjx]
    exact hno x hx
   have h2:=wpOp_putIf hoj (hfree j oj hoj hji hjun hnot) (fun cs b=>hsel i oi cs b hi) (fun cs b=>hsel j oj cs b hoj) hQ hy h1
   have hfree':∀k ok,ops[k]? =some ok→k≠i→(listed.setIfInBounds j true).getD k true=false→
     (∀e∈ok.after,Region.binds md e=true→e.on≠i)→oi.apart ops ok=true:=fun k ok hk hki hun hno=>by
    refine hfree k ok hk hki ?_ hno
    by_cases hjk:j=k
    ·subst hjk;exact hjun
    ·rw[getD_set_ne true hjk] at hun;exact hun
   have hGS:∀w',GoodG X S ((listed.setIfInBounds i true).setIfInBounds j true) w'→S w':=fun w' hg=>by
    rcases hg with⟨x,hx,hxl⟩|hg
    ·have hjx:j≠x:=fun e=>hjX (by rw[e];exact hx)
     have hix:i≠x:=fun e=>(waits_spec hX hx).1 e.symm
     rw[getD_set_ne false hjx,getD_set_ne false hix,hno x hx] at hxl
     cases hxl
    ·exact hg
   refine wpOp_mono (fun a' w' h3=>⟨.inr (hGS _ h3.2.1),ih (listed.setIfInBounds j true) a' w' hfree' (ready_mono hr (Ne.symm hji)) hno' h3.1 (hGS _ h3.2.1) ?_⟩) h2
   rw[Array.setIfInBounds_comm _ _ hji]
   exact h3.2.2
theorem wpAnyG_take {i:Nat} {oi:Oper} {v:Value} {fuel:Nat} {listed:Array Bool} {a:Act} {w:World} (hi:ops[i]? =some oi)
  (hs:Region.noSelect ops=true) (hf:Region.free md ops listed i=true) (hr:(Region.ready md ops listed).contains i=true) (hX:waits md ops X i=true) (hno:(X.all fun x=>listed.getD x false==false)=true)
  (hQ:∀c a w,Q (.panic c) (a.put oi.dst v) w→Q (.panic c) a w) (hy:YieldsIf P ops S oi v a) (hS:S w)
  (h:wpAnyG P md ops Q X S fuel (listed.setIfInBounds i true) (a.put oi.dst v) w):wpAnyG P md ops Q X S (fuel+1) listed a w:=
 wpAnyG_first hi (Region.noSelect_spec hs) hQ hX fuel listed a w (Region.free_spec hi hf) (by simpa using hr) (fun x hx=>by simpa using List.all_eq_true.1 hno x hx) hy hS h
def AllReadyG (P:Program) (md:Region.Mode) (ops:Array Oper) (Q:Exit→Act→World→Prop) (X:List Nat) (S:World→Prop) (fuel:Nat) (listed:Array Bool) (a:Act) (w:World) (rs:List Nat):Prop:=
 ∀i∈rs,wpOp P ops Q i (fun a' w'=>GoodG X S (listed.setIfInBounds i true) w'∧wpAnyG P md ops Q X S fuel (listed.setIfInBounds i true) a' w') a w
theorem wpAnyG_ready {rs:List Nat} {fuel:Nat} {listed:Array Bool} {a:Act} {w:World} (hr:Region.ready md ops listed=rs) (hne:rs≠ [])
  (h:AllReadyG P md ops Q X S fuel listed a w rs):wpAnyG P md ops Q X S (fuel+1) listed a w:=
 ⟨fun h0=>absurd (hr▸h0) hne,hr▸h⟩
theorem AllReadyG.nil {fuel:Nat} {listed:Array Bool} {a:Act} {w:World}:AllReadyG P md ops Q X S fuel listed a w []:=fun _ h=>by cases h
theorem AllReadyG.cons {fuel:Nat} {listed:Array Bool} {a:Act} {w:World} {i:Nat} {o:Oper} {rs:List Nat} (ho:ops[i]? =some o)
  (h:∀K':Act→World→Prop,Shut (∀a w,S w→(S w→wpAnyG P md ops Q X S fuel (listed.setIfInBounds i true) a w)→K' a w)→if Region.wanted o (yielded ops a.tmps)=true then Oper.wp P o a w K' Q else K' (a.put o.dst undef) w)
  (hs:AllReadyG P md ops Q X S fuel listed a w rs):AllReadyG P md ops Q X S fuel listed a w (i::rs):=fun j hj=>by
 rcases List.mem_cons.1 hj with rfl|hj
 ·exact wpOp_step ho (fun K' hK=>h K' (fun a w hS hW=>hK a w ⟨.inr hS,hW hS⟩))
 ·exact hs j hj
theorem AllReadyG.last {fuel:Nat} {listed:Array Bool} {a:Act} {w:World} {i:Nat} {o:Oper} {rs:List Nat} (ho:ops[i]? =some o) (hi:i∈X) (hl:i<listed.size)
  (h:∀K':Act→World→Prop,Shut (∀a w,wpAny P md ops Q fuel (listed.setIfInBounds i true) a w→K' a w)→if Region.wanted o (yielded ops a.tmps)=true then Oper.wp P o a w K' Q else K' (a.put o.dst undef) w)
  (hs:AllReadyG P md ops Q X S fuel listed a w rs):AllReadyG P md ops Q X S fuel listed a w (i::rs):=fun j hj=>by
 have hg:(listed.setIfInBounds i true).getD i false=true:=by simp[hl]
 rcases List.mem_cons.1 hj with rfl|hj
 ·exact wpOp_step ho (fun K' hK=>h K' (fun a w hW=>hK a w ⟨.inl ⟨j,hi,hg⟩,wpAnyG_of_any hi fuel _ a w hg hW⟩))
 ·exact hs j hj
theorem wpAnyG_done {listed:Array Bool} {a:Act} {w:World} (hr:Region.ready md ops listed=[]) (h:Q .normal a w):∀fuel,wpAnyG P md ops Q X S fuel listed a w
 |0=>⟨hr,h⟩
 |_+1=>⟨fun _=>h,by rw[hr];simp⟩
theorem wp_region_G {id:Nat} {a:Act} {w:World} (X:List Nat) (S:World→Prop) (hm:P.follows .mixedOrders=true) (hS:S w.drew)
  (h:S w.drew→wpAnyG P .any ops Q X S ops.size (Array.replicate ops.size false) a w.drew):(Code.region id ops true).wp P Q a w:=
 wp_region_any hm (wpAny_of_G _ _ _ _ (h hS))
theorem wpAny_ready' {rs:List Nat} {fuel:Nat} {listed:Array Bool} {a:Act} {w:World} (hr:Region.ready md ops listed=rs) (hne:rs≠ [])
  (h:AllReady P md ops Q fuel listed a w rs):wpAny P md ops Q (fuel+1) listed a w:=wpAny_all hr hne h
theorem allReady_nil {fuel:Nat} {listed:Array Bool} {a:Act} {w:World}:AllReady P md ops Q fuel listed a w []:=fun _ h=>by cases h
theorem allReady_cons {fuel:Nat} {listed:Array Bool} {a:Act} {w:World} {i:Nat} {o:Oper} {rs:List Nat} (ho:ops[i]? =some o)
  (h:∀K':Act→World→Prop,Shut (∀a w,wpAny P md ops Q fuel (listed.setIfInBounds i true) a w→K' a w)→if Region.wanted o (yielded ops a.tmps)=true then Oper.wp P o a w K' Q else K' (a.put o.dst undef) w)
  (hs:AllReady P md ops Q fuel listed a w rs):AllReady P md ops Q fuel listed a w (i::rs):=fun j hj=>by
 rcases List.mem_cons.1 hj with rfl|hj
 ·exact wpOp_step ho (fun K' hK=>h K' (fun a w hW=>hK a w hW))
 ·exact hs j hj
end
section
variable {w:World} {g:Nat} {cs:Array Value} {t:TypeId} {fr:Nat×Nat}
theorem cr2 (w:World) (g:Nat) (h:w.heap[g]? =some (.cells cs t fr)):w.cell? ⟨g,0,none⟩=cs[0]? ∧w.cell? ⟨g,1,none⟩=cs[1]? :=⟨cell_of_row w g 0 _ _ _ h,cell_of_row w g 1 _ _ _ h⟩
theorem cr3 (w:World) (g:Nat) (h:w.heap[g]? =some (.cells cs t fr)):w.cell? ⟨g,0,none⟩=cs[0]? ∧w.cell? ⟨g,1,none⟩=cs[1]? ∧w.cell? ⟨g,2,none⟩=cs[2]? :=⟨cell_of_row w g 0 _ _ _ h,cell_of_row w g 1 _ _ _ h,cell_of_row w g 2 _ _ _ h⟩
theorem cr4 (w:World) (g:Nat) (h:w.heap[g]? =some (.cells cs t fr)):w.cell? ⟨g,0,none⟩=cs[0]? ∧w.cell? ⟨g,1,none⟩=cs[1]? ∧w.cell? ⟨g,2,none⟩=cs[2]? ∧w.cell? ⟨g,3,none⟩=cs[3]? :=⟨cell_of_row w g 0 _ _ _ h,cell_of_row w g 1 _ _ _ h,cell_of_row w g 2 _ _ _ h,cell_of_row w g 3 _ _ _ h⟩
theorem cr5 (w:World) (g:Nat) (h:w.heap[g]? =some (.cells cs t fr)):w.cell? ⟨g,0,none⟩=cs[0]? ∧w.cell? ⟨g,1,none⟩=cs[1]? ∧w.cell? ⟨g,2,none⟩=cs[2]? ∧w.cell? ⟨g,3,none⟩=cs[3]? ∧w.cell? ⟨g,4,none⟩=cs[4]? :=⟨cell_of_row w g 0 _ _ _ h,cell_of_row w g 1 _ _ _ h,cell_of_row w g 2 _ _ _ h,cell_of_row w g 3 _ _ _ h,cell_of_row w g 4 _ _ _ h⟩
theorem cr6 (w:World) (g:Nat) (h:w.heap[g]? =some (.cells cs t fr)):w.cell? ⟨g,0,none⟩=cs[0]? ∧w.cell? ⟨g,1,none⟩=cs[1]? ∧w.cell? ⟨g,2,none⟩=cs[2]? ∧w.cell? ⟨g,3,none⟩=cs[3]? ∧w.cell? ⟨g,4,none⟩=cs[4]? ∧w.cell? ⟨g,5,none⟩=cs[5]? :=⟨cell_of_row w g 0 _ _ _ h,cell_of_row w g 1 _ _ _ h,cell_of_row w g 2 _ _ _ h,cell_of_row w g 3 _ _ _ h,cell_of_row w g 4 _ _ _ h,cell_of_row w g 5 _ _ _ h⟩
end
section
variable {P:Program} {ops:Array Oper} {Q:Exit→Act→World→Prop} {md:Region.Mode} {X:List Nat} {S:World→Prop} {fuel:Nat} {listed:Array Bool} {a:Act} {w:World}
theorem tk (i:Nat) {oi:Oper} {v:Value} (hi:ops[i]? =some oi:=by rfl)
  (hs:Region.noSelect ops=true:=by kernel_rfl) (hf:Region.free md ops listed i=true:=by kernel_rfl) (hr:(Region.ready md ops listed).contains i=true:=by kernel_rfl) (hX:waits md ops X i=true:=by kernel_rfl) (hno:(X.all fun x=>listed.getD x false==false)=true:=by kernel_rfl)
  (hQ:∀c a w,Q (.panic c) (a.put oi.dst v) w→Q (.panic c) a w:=by exact fun _ _ _ h=>h) (hw:Region.wanted oi (yielded ops a.tmps)=true:=by rfl)
  (hv:∀w,S w→(execOp a.eval oi).run P w= .ok (.value v) w:=by(intro w hSw;(try dsimp only at hSw);(try simp only[nmC]);go_simp;try with_reducible rfl)) (hS:S w:=by assumption)
  (h:wpAnyG P md ops Q X S fuel (listed.setIfInBounds i true) (a.put oi.dst v) w):wpAnyG P md ops Q X S (fuel+1) listed a w:=
 wpAnyG_take hi hs hf hr hX hno hQ (.inl ⟨hw,hv⟩) hS h
theorem tu (i:Nat) {oi:Oper} (hi:ops[i]? =some oi:=by rfl)
  (hs:Region.noSelect ops=true:=by kernel_rfl) (hf:Region.free md ops listed i=true:=by kernel_rfl) (hr:(Region.ready md ops listed).contains i=true:=by kernel_rfl) (hX:waits md ops X i=true:=by kernel_rfl) (hno:(X.all fun x=>listed.getD x false==false)=true:=by kernel_rfl)
  (hQ:∀c a w,Q (.panic c) (a.put oi.dst undef) w→Q (.panic c) a w:=by exact fun _ _ _ h=>h) (hw:Region.wanted oi (yielded ops a.tmps)=false:=by rfl) (hS:S w:=by assumption)
  (h:wpAnyG P md ops Q X S fuel (listed.setIfInBounds i true) (a.put oi.dst undef) w):wpAnyG P md ops Q X S (fuel+1) listed a w:=
 wpAnyG_take hi hs hf hr hX hno hQ (.inr ⟨hw,rfl⟩) hS h
theorem rd1 (i:Nat) {o:Oper}
  (h:∀K':Act→World→Prop,Shut (∀a w,S w→(S w→wpAnyG P md ops Q X S fuel (listed.setIfInBounds i true) a w)→K' a w)→if Region.wanted o (yielded ops a.tmps)=true then Oper.wp P o a w K' Q else K' (a.put o.dst undef) w)
  (ho:ops[i]? =some o:=by rfl) (hr:Region.ready md ops listed=[i]:=by kernel_rfl):wpAnyG P md ops Q X S (fuel+1) listed a w:=
 wpAnyG_ready hr (by simp) (AllReadyG.cons ho h AllReadyG.nil)
theorem rd2 (i j:Nat) {o p:Oper}
  (h:∀K':Act→World→Prop,Shut (∀a w,S w→(S w→wpAnyG P md ops Q X S fuel (listed.setIfInBounds i true) a w)→K' a w)→if Region.wanted o (yielded ops a.tmps)=true then Oper.wp P o a w K' Q else K' (a.put o.dst undef) w)
  (k:∀K':Act→World→Prop,Shut (∀a w,S w→(S w→wpAnyG P md ops Q X S fuel (listed.setIfInBounds j true) a w)→K' a w)→if Region.wanted p (yielded ops a.tmps)=true then Oper.wp P p a w K' Q else K' (a.put p.dst undef) w)
  (ho:ops[i]? =some o:=by rfl) (hp:ops[j]? =some p:=by rfl) (hr:Region.ready md ops listed=[i,j]:=by kernel_rfl):wpAnyG P md ops Q X S (fuel+1) listed a w:=
 wpAnyG_ready hr (by simp) (AllReadyG.cons ho h (AllReadyG.cons hp k AllReadyG.nil))
theorem rl1 (i:Nat) {o:Oper}
  (h:∀K':Act→World→Prop,Shut (∀a w,wpAny P md ops Q fuel (listed.setIfInBounds i true) a w→K' a w)→if Region.wanted o (yielded ops a.tmps)=true then Oper.wp P o a w K' Q else K' (a.put o.dst undef) w)
  (ho:ops[i]? =some o:=by rfl) (hi:i∈X:=by decide) (hl:i<listed.size:=by decide) (hr:Region.ready md ops listed=[i]:=by kernel_rfl):wpAnyG P md ops Q X S (fuel+1) listed a w:=
 wpAnyG_ready hr (by simp) (AllReadyG.last ho hi hl h AllReadyG.nil)
theorem tq (i:Nat) {oi:Oper} {v:Value} (hi:ops[i]? =some oi:=by rfl)
  (hs:Region.noSelect ops=true:=by kernel_rfl) (hf:Region.free md ops listed i=true:=by kernel_rfl) (hr:(Region.ready md ops listed).contains i=true:=by kernel_rfl)
  (hQ:∀c a w,Q (.panic c) (a.put oi.dst v) w→Q (.panic c) a w:=by exact fun _ _ _ h=>h) (hw:Region.wanted oi (yielded ops a.tmps)=true:=by rfl)
  (hv:∀w,(execOp a.eval oi).run P w= .ok (.value v) w:=by(intro w;(try simp only[nmC]);go_simp;try with_reducible rfl))
  (h:wpAny P md ops Q fuel (listed.setIfInBounds i true) (a.put oi.dst v) w):wpAny P md ops Q (fuel+1) listed a w:=
 wpAny_take hi hs hf hr hQ (.inl ⟨hw,hv⟩) h
end
theorem Index_list (xs:List ByteArray) (b cap:Nat) (t:TypeId) (fr:Nat×Nat) (s:ByteArray) (w:World) (hrow:w.heap[b]? =some (.cells (xs.map Value.string).toArray t fr)) (hx:xs.length≤140737488351232):
  Calls Tryz.prog 156 #[.slice (some ⟨b,0,none⟩) xs.length cap,.string s] w fun e w'=>e= .returned (.int .i64 (idxFrom xs s 0))∧w'=w:=by
 have hcell:∀(j:Nat) (x:ByteArray),xs[j]? =some x→w.cell? ⟨b,j,none⟩=some (.string x):=fun j x hj=>by
  rw[cell_of_row w b j _ _ _ hrow]
  simp[hj]
 have HC:=Lib.hid hcell
 clear hcell hrow
 obtain⟨n,hn⟩:∃n,xs.length=n:=⟨_,rfl⟩
 have HL:=Lib.hid hn
 rw[hn] at hx⊢
 clear hn
 go_enter Tryz.func156,Tryz.ntmps156
 go_wp2
 go_loopw [8] (fun i wr=>∃j:Nat,j≤n∧i= .int .i64 j∧wr=w∧Hid (idxFrom (xs.drop j) s j=idxFrom xs s 0)) (fun i _=>n-(intOf i).toNat)
 case atStart=>exact⟨0,by omega,rfl,rfl,rfl⟩
 case round=>
  obtain⟨j,hj,rfl,rfl,HI⟩:=hrel
  by_cases hlt:j<n
  ·obtain⟨x,hx⟩:∃x,xs[j]? =some x:=⟨_,List.getElem?_eq_getElem (by rw[HL.out];exact hlt)⟩
   have hc:=HC.out j x hx
   have HX:=Lib.hid hx
   clear hx
   go_wp2
   ·go_ret
    refine⟨ret_int ?_,rfl⟩
    rw[←HI.out,drop_cons HX.out,idxFrom,if_pos (by assumption)]
   ·go_roundw
    case rel=>
     refine⟨j+1,by omega,by go_num,trivial, ?_⟩
     show _=_
     rw[←HI.out,drop_cons HX.out,idxFrom,if_neg (by simp[*])]
     simp
    case measure=>simp[intOf];omega
  ·obtain rfl:j=n:=by omega
   go_wp2
   go_ret
   refine⟨ret_int ?_,rfl⟩
   rw[←HI.out,List.drop_of_length_le (by rw[HL.out];exact Nat.le_refl _)]
   rfl
theorem Contains_list (xs:List ByteArray) (b cap:Nat) (t:TypeId) (fr:Nat×Nat) (s:ByteArray) (w:World) (hrow:w.heap[b]? =some (.cells (xs.map Value.string).toArray t fr)) (hx:xs.length≤140737488351232):
  Calls Tryz.prog 116 #[.slice (some ⟨b,0,none⟩) xs.length cap,.string s] w fun e w'=>e= .returned (.bool (xs.any (fun x=>s.toList==x.toList)))∧w'=w:=by
 have HR:=Lib.hid hrow
 clear hrow
 have HW:Hid (decide (0≤idxFrom xs s 0)=xs.any (fun x=>s.toList==x.toList)):=idxFrom_word _ _ _ (Int.le_refl _)
 go_enter Tryz.func116,Tryz.ntmps116
 go_wp2_with (go_at_call 156;refine(Index_list xs b cap t fr s _ HR.out hx).mono ?_;rintro e w' ⟨rfl,rfl⟩)
 go_ret
 exact⟨ret_bool HW.out,rfl⟩
end Go.Proofs.YtagnicbknbmccaaGreatDoor
