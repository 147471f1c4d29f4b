/- strconv.ParseUint at the base sixteen; code.float. code.headed$1, slices.IndexFunc and ContainsFunc of ints over it. (*reader).function. (*reader).function, walked. -/
import Derived.Deep.AppendLies
import Derived.Test.YtagnicbknbmccaaGreatDoorMCwG
import Derived.Test.YtagnicbknbmccaaGreatDoorCwT
import Derived.Test.YtagnicbknbmccaaGreatDoorMCwV
import Derived.Test.YtagnicbknbmccaaGreatDoorMCyA
import Derived.Test.YtagnicbknbmccaaGreatDoorMCwR
import Derived.Test.YtagnicbknbmccaaGreatDoorMCwO
import Derived.Test.YtagnicbknbmccaaGreatDoorMCwF
import Derived.Test.YtagnicbknbmccaaGreatDoorSqC
set_option maxRecDepth 100000
set_option maxHeartbeats 16000000
namespace Go.Proofs.YtagnicbknbmccaaGreatDoor
open Go.RowKit
def hexCheck (n:Nat):Bool:=
 (match hexV (UInt8.ofNat n) with|some d=>hexA n==some d&&Lib.lowerB (UInt8.ofNat n)==UInt8.ofNat n|none=>true)&&
 (match hexA n with|some d=>decide (n<128)&&(!(n==43)&&(decide (d<16)&&(!(Lib.lowerB (UInt8.ofNat n)==UInt8.ofNat n)||hexV (UInt8.ofNat n)==some d)))|none=>true)
theorem hexCheck_all:(List.range 256).all hexCheck=true:=by kernel_rfl
theorem hex_byte (c:UInt8):(∀d,hexV c=some d→hexA c.toNat=some d∧Lib.lowerB c=c)∧∀d,hexA c.toNat=some d→c.toNat<128∧c.toNat≠43∧d<16∧(Lib.lowerB c=c→hexV c=some d):=by
 have h:=List.all_eq_true.mp hexCheck_all c.toNat (List.mem_range.2 c.toNat_lt)
 unfold hexCheck at h
 rw[show UInt8.ofNat c.toNat=c by simp] at h
 simp only[Bool.and_eq_true] at h
 obtain⟨h1,h2⟩:=h
 constructor
 ·intro d hd
  rw[hd] at h1
  simpa using h1
 ·intro d hd
  rw[hd] at h2
  simp only[Bool.and_eq_true,decide_eq_true_eq,Bool.not_eq_true',beq_eq_false_iff_ne,Bool.or_eq_true,beq_iff_eq] at h2
  obtain⟨a,b,c',e⟩:=h2
  refine⟨a,b,c',fun hl=> ?_⟩
  rcases e with e|e
  ·exact absurd hl e
  ·exact e
theorem hexU_of:∀(s:List UInt8) (n m:Nat),hexNum s n=some m→(n+1)*16^s.length≤18446744073709551616→hexU s n=some m∧Lib.toLowerA s=s
 | [],n,m,h,_=>⟨h,rfl⟩
 |c::r,n,m,h,hb=>by
  rw[hexNum] at h
  cases hc:hexV c with
  |none=>rw[hc] at h;cases h
  |some d=>
   rw[hc] at h
   have h':hexNum r (16*n+d)=some m:=h
   obtain⟨ha,hl⟩:=(hex_byte c).1 d hc
   have hd:=((hex_byte c).2 d ha).2.2.1
   have hp:1≤16^r.length:=by first|exact Nat.pos_pow (by decide)|exact Nat.pow_pos (by decide)|exact Nat.pos_pow_of_pos _ (by decide)
   rw[List.length_cons,Nat.pow_succ] at hb
   have hb2:(16*n+d+1)*16^r.length≤18446744073709551616:=by
    refine Nat.le_trans (Nat.mul_le_mul_right _ (show 16*n+d+1≤(n+1)*16 by omega)) ?_
    rw[Nat.mul_assoc,Nat.mul_comm 16]
    exact hb
   have hn:¬1152921504606846976≤n:=by
    intro hge
    have:(n+1)*(16^r.length*16)≥(n+1)*16:=Nat.mul_le_mul_left _ (by omega)
    omega
   obtain⟨i1,i2⟩:=hexU_of r _ m h' hb2
   exact⟨by rw[hexU_go ha hn];exact i1,by rw[Lib.toLowerA,List.map_cons,hl];exact congrArg (c::·) i2⟩
theorem hexNum_of:∀(s:List UInt8) (n m:Nat),hexU s n=some m→Lib.toLowerA s=s→hexNum s n=some m
 | [],n,m,h,_=>h
 |c::r,n,m,h,hl=>by
  rw[Lib.toLowerA,List.map_cons,List.cons.injEq] at hl
  cases hc:hexA c.toNat with
  |none=>rw[hexU_bad hc] at h;cases h
  |some d=>
   have hn:¬1152921504606846976≤n:=fun hge=>by rw[hexU_far hge] at h;cases h
   rw[hexU_go hc hn] at h
   rw[hexNum,((hex_byte c).2 d hc).2.2.2 hl.1]
   exact hexNum_of r _ m h hl.2
theorem hexU_ascii:∀(s:List UInt8) (n m:Nat),hexU s n=some m→∀b∈s,b.toNat<128∧b.toNat≠43
 | [],_,_,_,b,hb=>by cases hb
 |c::r,n,m,h,b,hb=>by
  cases hc:hexA c.toNat with
  |none=>rw[hexU_bad hc] at h;cases h
  |some d=>
   have hn:¬1152921504606846976≤n:=fun hge=>by rw[hexU_far hge] at h;cases h
   rw[hexU_go hc hn] at h
   rcases List.mem_cons.1 hb with rfl|hb
   ·exact⟨((hex_byte b).2 d hc).1,((hex_byte b).2 d hc).2.1⟩
   ·exact hexU_ascii r _ m h b hb
def hexW (s:List UInt8):Option Nat:=if s=[] then none else hexU s 0
def UintPost (w:World) (r:Option Nat) (e:Ending) (w':World):Prop:=Below w.heap.size w w'∧match r with
 |some n=>n<18446744073709551616∧e= .returned (.tuple #[.int .u64 n,.nilIface])
 |none=>∃v te pe,e= .returned (.tuple #[.int .u64 v,.iface te pe])
theorem hex_outer (t:List UInt8) (hmax:t.length≤4000000000) (w:World) (hG:Gc w):
  Calls Tryz.prog 162 #[.string ⟨⟨t⟩⟩,.int .i64 16,.int .i64 64] w (UintPost w (hexW t)):=by
 obtain⟨es,hs1,hs2⟩:=hG.syn
 obtain⟨er,hr1,hr2⟩:=hG.rng
 have HI:Hid (Calls Tryz.prog 188 #[.string ⟨⟨t⟩⟩,.int .i64 16,.int .i64 64] w (HexPost w (hexW t))):=Lib.hid (by
  cases t with
  |nil=>
   refine(Tryz.internal_strconv_ParseUint_empty 16 64 w).mono ?_
   rintro e w' ⟨rfl,rfl⟩
   exact⟨Below.refl _ _,0,2,.inr rfl,rfl⟩
  |cons c r=>exact hex_inner ⟨⟨c::r⟩⟩ (by show(c::r).length≠0;simp) hmax w)
 have HT:Hid (∀w',Below w.heap.size w w'→∀k,(k=1∨k=2)→Calls Tryz.prog 187 #[.string ⟨#[80,97,114,115,101,85,105,110,116]⟩,.string ⟨⟨t⟩⟩,.int .i64 16,.int .i64 64,.iface 273 (.int .i64 k)] w' fun e w''=>∃te pe,e= .returned (.iface te pe)∧Below w'.heap.size w' w''):=Lib.hid (by
  intro w' hb k hk
  rcases hk with rfl|rfl
  ·refine(Tryz.strconv_toError_range _ _ _ _ er w' (by show t.length≤_;omega) ((hb.cell (p:=⟨6,0,none⟩) (Nat.lt_of_lt_of_le (by decide) hG.size)).trans hr1) hr2).mono ?_
   rintro e w'' ⟨N,rfl,_,_,h⟩
   exact⟨_,_,rfl,h⟩
  ·refine(Tryz.strconv_toError_syntax _ _ _ _ es w' (by show t.length≤_;omega) ((hb.cell (p:=⟨5,0,none⟩) (Nat.lt_of_lt_of_le (by decide) hG.size)).trans hs1) hs2).mono ?_
   rintro e w'' ⟨N,rfl,_,_,h⟩
   exact⟨_,_,rfl,h⟩)
 clear hs1 hs2 hr1 hr2 hG
 obtain⟨R,hR⟩:∃R,hexW t=R:=⟨_,rfl⟩
 rw[hR] at HI⊢
 clear hR
 go_enter Tryz.func162,Tryz.ntmps162
 cases R with
 |some n=>
  go_wp2_with (go_at_call 188;refine HI.out.mono ?_;rintro e w1 ⟨hb1,hn,rfl⟩)
  go_ret2
  exact⟨hb1,hn,rfl⟩
 |none=>
  go_wp2_with (first
   |(go_at_call 188;refine HI.out.mono ?_;rintro e w1 ⟨hb1,v,k,hk,rfl⟩;have HB1:=Lib.hid hb1;clear hb1)
   |(go_at_call 187;refine(HT.out _ HB1.out _ hk).mono ?_;rintro e w2 ⟨te,pe,rfl,hb2⟩))
  go_ret2
  exact⟨HB1.out.trans (hb2.mono HB1.out.size),_,_,_,rfl⟩
def outB (slots:Int) (n:Nat) (t:Int):Bool:=decide (slots≤t)||decide (t< -(n:Int))
theorem headed1_any {w:World} {b n cap:Nat} {ta:Option Addr} {slots t:Int} (h2:w.cell? ⟨b,2,none⟩=some (.int .i64 slots)) (h3:w.cell? ⟨b,3,none⟩=some (.slice ta n cap)) (hn:n≤140737488351232):
  Calls Tryz.prog 80 #[.int .i64 t,.pointer (some ⟨b,0,none⟩)] w fun e w'=>e= .returned (.bool (outB slots n t))∧w'=w:=by
 have HF:Hid (outB slots n t=(decide (slots≤t)||decide (t< -(n:Int)))):=rfl
 go_enter Tryz.func80,Tryz.ntmps80
 cases d1:decide (slots≤t) with
 |true=>
  rw[d1] at HF
  go_wp2_with fail
  go_ret
  exact⟨ret_bool (by rw[HF.out];rfl),rfl⟩
 |false=>
  rw[d1] at HF
  go_wp2_with fail
  go_ret
  exact⟨ret_bool (by rw[HF.out];rfl),rfl⟩
theorem indexTaken_any {w:World} {b n cap c:Nat} {ta A:Option Addr} {slots:Int} {l:List Int} (h2:w.cell? ⟨b,2,none⟩=some (.int .i64 slots)) (h3:w.cell? ⟨b,3,none⟩=some (.slice ta n cap)) (hn:n≤140737488351232)
  (hrow:RowIs w w.heap.size A (l.map (Value.int .i64))) (hl:l.length≤140737488351232):
  Calls Tryz.prog 119 #[.slice A l.length c,.func (.func 80) #[] #[.pointer (some ⟨b,0,none⟩)]] w fun e w'=>∃r:Int,e= .returned (.int .i64 r)∧decide (0≤r)=l.any (outB slots n)∧w'=w:=by
 have hcall:∀(v u:Value) (w':World),(callFunc 80 #[v,u]).run Tryz.prog w'= .ok (.enter 80 #[v,u]) w':=fun v u w'=>enters_of Tryz.func80 (by kernel_rfl) rfl _ _
 have HR:=Lib.hid hrow
 obtain⟨m,hm⟩:∃m,l.length=m:=⟨_,rfl⟩
 have HL:=Lib.hid hm
 have HC:Hid (∀t,Calls Tryz.prog 80 #[.int .i64 t,.pointer (some ⟨b,0,none⟩)] w fun e w'=>e= .returned (.bool (outB slots n t))∧w'=w):=Lib.hid fun t=>headed1_any h2 h3 hn
 rw[hm] at hl⊢
 clear hrow h2 h3 hm
 go_enter Tryz.func119,Tryz.ntmps119
 go_wp2_with fail
 go_loopw [8] (fun i wr=>wr=w∧∃j:Nat,j≤m∧i= .int .i64 j∧Hid ((l.drop j).any (outB slots n)=l.any (outB slots n))) (fun i _=>m-(intOf i).toNat)
 case atStart=>exact⟨rfl,0,Nat.zero_le _,rfl,Lib.hid rfl⟩
 case round=>
  obtain⟨rfl,j,hj,rfl,HI⟩:=hrel
  by_cases hlt:j<m
  ·obtain⟨g,o,rfl,hg,hc⟩:=HR.out.at (by rw[List.length_map,HL.out];omega)
   obtain⟨x,hx⟩:∃x,l[j]? =some x:=⟨_,List.getElem?_eq_getElem (by rw[HL.out];exact hlt)⟩
   have hcell:=hc j (.int .i64 x) (by rw[List.getElem?_map,hx];rfl)
   have HD:Hid (l.drop j=x::l.drop (j+1)):=Lib.hid (drop_cons hx)
   clear hc hx
   cases hb:outB slots n x with
   |true=>
    go_wp2_with (go_at_call 80;refine(HC.out x).mono ?_;rw[hb];rintro e w' ⟨rfl,rfl⟩)
    go_ret
    refine⟨(j:Int),rfl, ?_,rfl⟩
    rw[←HI.out,HD.out,List.any_cons,hb]
    simp
   |false=>
    go_wp2_with (go_at_call 80;refine(HC.out x).mono ?_;rw[hb];rintro e w' ⟨rfl,rfl⟩)
    go_roundw
    case rel=>
     refine⟨by trivial,j+1,by omega,by go_num,Lib.hid ?_⟩
     rw[←HI.out,HD.out,List.any_cons,hb,Bool.false_or]
    case measure=>simp[intOf];omega
  ·obtain rfl:j=m:=by omega
   go_wp2_with fail
   go_ret
   refine⟨-1,rfl, ?_,rfl⟩
   rw[←HI.out,List.drop_of_length_le (by rw[HL.out];exact Nat.le_refl _)]
   rfl
theorem containsTaken_any {w:World} {b n cap c:Nat} {ta A:Option Addr} {slots:Int} {l:List Int} (h2:w.cell? ⟨b,2,none⟩=some (.int .i64 slots)) (h3:w.cell? ⟨b,3,none⟩=some (.slice ta n cap)) (hn:n≤140737488351232)
  (hrow:RowIs w w.heap.size A (l.map (Value.int .i64))) (hl:l.length≤140737488351232):
  Calls Tryz.prog 79 #[.slice A l.length c,.func (.func 80) #[] #[.pointer (some ⟨b,0,none⟩)]] w fun e w'=>e= .returned (.bool (l.any (outB slots n)))∧w'=w:=by
 have HC:=Lib.hid (indexTaken_any (c:=c) h2 h3 hn hrow hl)
 clear h2 h3 hrow
 go_enter Tryz.func79,Tryz.ntmps79
 go_wp2_with (go_at_call 119;refine HC.out.mono ?_;rintro e w' ⟨r,rfl,hr,rfl⟩)
 go_ret
 first
  |exact⟨ret_bool hr,rfl⟩
  |exact⟨rfl,rfl⟩
structure RdAt (w0:World) (rb:Nat) (b:List UInt8) (r:Drd) (W:World):Prop where
 at_:BrAt rb b r W
 foot:Foot w0.heap.size (fun k=>k=rb) w0 W
 old:rb<w0.heap.size
def RBox (w0 W:World) (x:Nat) (o:Obj):Prop:=W.heap[x]? =some o∧w0.heap.size≤x
section
variable {w0 W W':World} {rb x:Nat} {b:List UInt8} {r r':Drd} {o:Obj}
theorem RdAt.post (h:RdAt w0 rb b r W) (hb:BrAt rb b r' W') (hf:RF rb W W'):RdAt w0 rb b r' W':=
 ⟨hb,h.foot.trans (hf.mono h.foot.size fun _ _ e=>e),h.old⟩
theorem RBox.lt (h:RBox w0 W x o):x<W.heap.size:=(Array.getElem?_eq_some_iff.1 h.1).1
theorem RBox.post (h:RBox w0 W x o) (hr:rb<w0.heap.size) (hf:RF rb W W'):RBox w0 W' x o:=⟨(hf.block x h.lt (fun e=>by have:=h.2;omega)).trans h.1,h.2⟩
theorem RBox.alloc (h:RBox w0 W x o) (p:Obj):RBox w0 (W.alloc p) x o:=⟨(heap_alloc_old _ _ h.lt).trans h.1,h.2⟩
theorem RdAt.alloc (h:RdAt w0 rb b r W) (p:Obj):RdAt w0 rb b r (W.alloc p):=⟨h.at_.keep (heap_alloc_old _ _ h.at_.lt),⟨h.foot.os,h.foot.tape,h.foot.output,by have:=h.foot.size;rw[World.size_alloc];omega,fun k hk hn=>(heap_alloc_old _ _ (Nat.lt_of_lt_of_le hk h.foot.size)).trans (h.foot.block k hk hn)⟩,h.old⟩
theorem RdAt.box (h:RdAt w0 rb b r W) (p:Obj):RBox w0 (W.alloc p) W.heap.size p:=⟨heap_alloc_new _ _,h.foot.size⟩
theorem RdAt.drew (h:RdAt w0 rb b r W):RdAt w0 rb b r W.drew:=⟨⟨h.at_.box,h.at_.le⟩,⟨h.foot.os,h.foot.tape,h.foot.output,h.foot.size,h.foot.block⟩,h.old⟩
theorem RdAt.set (h:RdAt w0 rb b r W) (hx:w0.heap.size≤x) (i:Nat) (v:Value):RdAt w0 rb b r (W.setCell ⟨x,i,none⟩ v):=by
 have hb:∀k,k≠x→(W.setCell ⟨x,i,none⟩ v).heap[k]? =W.heap[k]? :=fun k hk=>Below.heap_setCell W _ _ _ hk
 exact⟨h.at_.keep (hb rb (by have:=h.old;omega)),⟨h.foot.os,h.foot.tape,h.foot.output,by have:=h.foot.size;simpa using this,fun k hk hn=>(hb k (by omega)).trans (h.foot.block k hk hn)⟩,h.old⟩
end
theorem own_keep {W W':World} {lo:Nat} {e:TypeId} {s n:Nat} {v:Value} {xs:List Value} (h:W.ownsRow lo e s v n xs) (hk:∀g,v.ownBlock=some g→W'.heap[g]? =W.heap[g]?):W'.ownsRow lo e s v n xs:=by
 refine⟨h.1, ?_⟩
 rcases h.2 with h|⟨g,cap,cur,rfl,hlo,hg,h1,h2,h3,h4⟩
 ·exact .inl h
 ·exact .inr ⟨g,cap,cur,rfl,hlo,(hk g rfl).trans hg,h1,h2,h3,h4⟩
structure FnSt (w0:World) (rb:Nat) (b:List UInt8) (fb:Nat) (c0 c1 c2 vt c4 vc:Value) (ts:List Int) (xs:List Ci) (r:Drd) (W:World):Prop where
 rd:RdAt w0 rb b r W
 box:RBox w0 W fb (.cells #[c0,c1,c2,vt,c4,vc] 33 (0,0))
 res:RBox w0 W w0.heap.size (.cells #[.string ⟨#[]⟩,.int .i64 0,.int .i64 0,.slice none 0 0,.int .i64 0,.slice none 0 0] 33 (0,0))
 own1:W.ownsRow w0.heap.size 3 1 vt ts.length (ts.map (Value.int .i64))
 own2:W.ownsRow w0.heap.size 36 5 vc xs.length (xs.flatMap insCells)
 n1:∀g,vt.ownBlock=some g→g≠fb∧g≠w0.heap.size∧vc.ownBlock≠some g
 n2:∀g,vc.ownBlock=some g→g≠fb∧g≠w0.heap.size
 nf:fb≠w0.heap.size
section
variable {w0 W W' W2:World} {rb fb g2 cap2:Nat} {b:List UInt8} {c0 c1 c2 vt c4 vc:Value} {ts:List Int} {xs:List Ci} {r r':Drd} {o:Obj}
theorem FnSt.post (h:FnSt w0 rb b fb c0 c1 c2 vt c4 vc ts xs r W) (hb:BrAt rb b r' W') (hf:RF rb W W'):FnSt w0 rb b fb c0 c1 c2 vt c4 vc ts xs r' W':=by
 have ho:=h.rd.old
 refine⟨h.rd.post hb hf,h.box.post ho hf,h.res.post ho hf,own_keep h.own1 fun g hg=> ?_,own_keep h.own2 fun g hg=> ?_,h.n1,h.n2,h.nf⟩
 ·have:=h.own1.lt g hg;exact hf.block g this.2 (by omega)
 ·have:=h.own2.lt g hg;exact hf.block g this.2 (by omega)
theorem FnSt.drew (h:FnSt w0 rb b fb c0 c1 c2 vt c4 vc ts xs r W):FnSt w0 rb b fb c0 c1 c2 vt c4 vc ts xs r W.drew:=⟨h.rd.drew,h.box,h.res,h.own1,h.own2,h.n1,h.n2,h.nf⟩
theorem grown_keep {W W2:World} {o:Obj} {row:Option Nat} (hg:(W.alloc o).grownBy W2 row) {k:Nat} (hk:k<W.heap.size) (hn:row≠some k):W2.heap[k]? =W.heap[k]? :=
 (hg.block k (by rw[World.size_alloc];omega) (fun e=>hn e.symm)).trans (heap_alloc_old _ _ hk)
theorem RdAt.grown {row:Option Nat} (h:RdAt w0 rb b r W) (hg:(W.alloc o).grownBy W2 row) (hr:∀k,row=some k→w0.heap.size≤k):RdAt w0 rb b r W2:=by
 have ho:=h.old
 have hs:=h.foot.size
 refine⟨h.at_.keep (grown_keep hg h.at_.lt fun e=> ?_),⟨hg.os.trans h.foot.os,hg.tape.trans h.foot.tape,hg.output.trans h.foot.output,by have:=hg.size;rw[World.size_alloc] at this;omega,fun k hk hn=> ?_⟩,ho⟩
 ·have:=hr _ e;omega
 ·exact(grown_keep hg (by omega) fun e=>by have:=hr _ e;omega).trans (h.foot.block k hk hn)
theorem FnSt.push1 (h:FnSt w0 rb b fb c0 c1 c2 vt c4 vc ts xs r W) {x:Int} (ho:W2.ownsRow w0.heap.size 3 1 (.slice (some ⟨g2,0,none⟩) (ts.length+1) cap2) (ts.length+1) (ts.map (Value.int .i64)++ [.int .i64 x])) (hg:(W.alloc o).grownBy W2 vt.ownBlock) (hb:vt.ownBlock=some g2∨g2=(W.alloc o).heap.size):
  W2.heap[fb]? =some (.cells #[c0,c1,c2,vt,c4,vc] 33 (0,0))∧FnSt w0 rb b fb c0 c1 c2 (.slice (some ⟨g2,0,none⟩) (ts.length+1) cap2) c4 vc (ts++ [x]) xs r (W2.setCell ⟨fb,3,none⟩ (.slice (some ⟨g2,0,none⟩) (ts.length+1) cap2)):=by
 have hvt:∀k,vt.ownBlock=some k→w0.heap.size≤k:=fun k hk=>(h.own1.lt k hk).1
 have hfb:=h.box.lt
 have hs:=h.rd.foot.size
 have hbox:W2.heap[fb]? =some (.cells #[c0,c1,c2,vt,c4,vc] 33 (0,0)):=(grown_keep hg hfb fun e=>(h.n1 _ e).1 rfl).trans h.box.1
 have hg2:g2≠fb∧g2≠w0.heap.size∧vc.ownBlock≠some g2:=by
  rcases hb with e|e
  ·exact h.n1 g2 e
  ·rw[World.size_alloc] at e
   refine⟨by omega,by omega,fun e2=> ?_⟩
   have:=(h.own2.lt _ e2).2
   omega
 have hset:∀k,k≠fb→(W2.setCell ⟨fb,3,none⟩ (.slice (some ⟨g2,0,none⟩) (ts.length+1) cap2)).heap[k]? =W2.heap[k]? :=fun k hk=>Below.heap_setCell W2 _ _ _ hk
 refine⟨hbox,(h.rd.grown hg hvt).set h.box.2 3 _,⟨heap_setCell_same _ _ 3 _ _ _ hbox,h.box.2⟩,⟨(hset _ (fun e=>h.nf e.symm)).trans ((grown_keep hg h.res.lt fun e=>(h.n1 _ e).2.1 rfl).trans h.res.1),Nat.le_refl _⟩, ?_, ?_, ?_,h.n2,h.nf⟩
 ·rw[List.length_append,List.map_append]
  refine own_keep ho fun g hg=> ?_
  simp only[Value.ownBlock,Option.some.injEq] at hg
  subst hg
  exact hset _ hg2.1
 ·refine own_keep h.own2 fun g hgo=>(hset g (h.n2 g hgo).1).trans (grown_keep hg (h.own2.lt g hgo).2 fun e=>(h.n1 _ e).2.2 hgo)
 ·intro g hg
  simp only[Value.ownBlock,Option.some.injEq] at hg
  subst hg
  exact hg2
theorem FnSt.push2 (h:FnSt w0 rb b fb c0 c1 c2 vt c4 vc ts xs r W) {x:Ci} (ho:W2.ownsRow w0.heap.size 36 5 (.slice (some ⟨g2,0,none⟩) (xs.length+1) cap2) (xs.length+1) (xs.flatMap insCells++insCells x)) (hg:(W.alloc o).grownBy W2 vc.ownBlock) (hb:vc.ownBlock=some g2∨g2=(W.alloc o).heap.size):
  W2.heap[fb]? =some (.cells #[c0,c1,c2,vt,c4,vc] 33 (0,0))∧FnSt w0 rb b fb c0 c1 c2 vt c4 (.slice (some ⟨g2,0,none⟩) (xs.length+1) cap2) ts (xs++ [x]) r (W2.setCell ⟨fb,5,none⟩ (.slice (some ⟨g2,0,none⟩) (xs.length+1) cap2)):=by
 have hvt:∀k,vc.ownBlock=some k→w0.heap.size≤k:=fun k hk=>(h.own2.lt k hk).1
 have hfb:=h.box.lt
 have hs:=h.rd.foot.size
 have hbox:W2.heap[fb]? =some (.cells #[c0,c1,c2,vt,c4,vc] 33 (0,0)):=(grown_keep hg hfb fun e=>(h.n2 _ e).1 rfl).trans h.box.1
 have hg2:g2≠fb∧g2≠w0.heap.size∧vt.ownBlock≠some g2:=by
  rcases hb with e|e
  ·exact⟨(h.n2 g2 e).1,(h.n2 g2 e).2,fun e2=>(h.n1 _ e2).2.2 e⟩
  ·rw[World.size_alloc] at e
   refine⟨by omega,by omega,fun e2=> ?_⟩
   have:=(h.own1.lt _ e2).2
   omega
 have hset:∀k,k≠fb→(W2.setCell ⟨fb,5,none⟩ (.slice (some ⟨g2,0,none⟩) (xs.length+1) cap2)).heap[k]? =W2.heap[k]? :=fun k hk=>Below.heap_setCell W2 _ _ _ hk
 refine⟨hbox,(h.rd.grown hg hvt).set h.box.2 5 _,⟨heap_setCell_same _ _ 5 _ _ _ hbox,h.box.2⟩,⟨(hset _ (fun e=>h.nf e.symm)).trans ((grown_keep hg h.res.lt fun e=>(h.n2 _ e).2 rfl).trans h.res.1),Nat.le_refl _⟩, ?_, ?_, ?_, ?_,h.nf⟩
 ·refine own_keep h.own1 fun g hgo=>(hset g (h.n1 g hgo).1).trans (grown_keep hg (h.own1.lt g hgo).2 fun e=>(h.n1 _ hgo).2.2 e)
 ·rw[List.length_append,List.flatMap_append]
  simp only[List.flatMap_cons,List.flatMap_nil,List.append_nil]
  refine own_keep ho fun g hg=> ?_
  simp only[Value.ownBlock,Option.some.injEq] at hg
  subst hg
  exact hset _ hg2.1
 ·intro g hgo
  refine⟨(h.n1 g hgo).1,(h.n1 g hgo).2.1,fun e=> ?_⟩
  simp only[Value.ownBlock,Option.some.injEq] at e
  subst e
  exact hg2.2.2 hgo
 ·intro g hg
  simp only[Value.ownBlock,Option.some.injEq] at hg
  subst hg
  exact⟨hg2.1,hg2.2.1⟩
theorem FnSt.set4 (h:FnSt w0 rb b fb c0 c1 c2 vt c4 vc ts xs r W) (v:Value):FnSt w0 rb b fb c0 c1 c2 vt v vc ts xs r (W.setCell ⟨fb,4,none⟩ v):=by
 have hset:∀k,k≠fb→(W.setCell ⟨fb,4,none⟩ v).heap[k]? =W.heap[k]? :=fun k hk=>Below.heap_setCell W _ _ _ hk
 exact⟨h.rd.set h.box.2 4 _,⟨heap_setCell_same _ _ 4 _ _ _ h.box.1,h.box.2⟩,⟨(hset _ (fun e=>h.nf e.symm)).trans h.res.1,Nat.le_refl _⟩,own_keep h.own1 fun g hg=>hset g (h.n1 g hg).1,own_keep h.own2 fun g hg=>hset g (h.n2 g hg).1,h.n1,h.n2,h.nf⟩
end
theorem frozen_keep {w w':World} {g:Nat} (h:w'.heap[g]? =w.heap[g]?) (i:Nat):w'.frozen? ⟨g,i,none⟩=w.frozen? ⟨g,i,none⟩:=by simp[World.frozen?,h]
theorem news_at (W:World) (cs:List Value) (t:TypeId) (fr:Nat×Nat) (k:Nat) (u:Value) (hu:cs[k]? =some u):(W.alloc (.cells cs.toArray t fr)).cell? ((⟨W.heap.size,0,none⟩:Addr).add k)=some u:=by
 rw[Addr.add_lit,Nat.zero_add]
 exact(cell_of_row _ _ k _ _ _ (heap_alloc_new _ _)).trans (by rw[List.getElem?_toArray,hu])
theorem instInfo:(Tryz.prog.info? 36).map (fun i=>(i.zero,i.size,i.bytes))=some (some (.agg #[.int .i64 0,.int .i64 0,.int .i64 0,.string ⟨#[]⟩,.int .i64 0]),5,48):=by kernel_rfl
theorem rowD_stop {α:Type} (g:Drd→α×Drd) (k:Nat) (r:Drd) (h:(decide (0<k)&&r.bad.isNone)=false):rowD g k r=([],r):=by
 cases k with
 |zero=>rw[rowD]
 |succ k=>
  rw[rowD,if_neg]
  intro e
  simp[e] at h
theorem func_result (tmps:Array Value) (W:World) (g:Nat) (v0 v1 v2 v3 v4 v5:Value) (h2:tmps.getD 2 undef= .pointer (some ⟨g,0,none⟩)) (e0:W.cell? ⟨g,0,none⟩=some v0) (e1:W.cell? ⟨g,1,none⟩=some v1) (e2:W.cell? ⟨g,2,none⟩=some v2) (e3:W.cell? ⟨g,3,none⟩=some v3) (e4:W.cell? ⟨g,4,none⟩=some v4) (e5:W.cell? ⟨g,5,none⟩=some v5):
  (results Tryz.f62 tmps).run Tryz.prog W= .ok (.agg #[v0,v1,v2,v3,v4,v5]) W:=by
 have h2':tmps[2]?.getD undef= .pointer (some ⟨g,0,none⟩):=by simpa using h2
 have hres:Tryz.f62.results= #[ResultVar.cell 2 33]:=rfl
 simp[results,go_sem,h2',e0,e1,e2,e3,e4,e5]
theorem many_nat {b:List UInt8} {r:Drd} (hr:r.at_≤b.length):∃m:Nat,(manyD b r).1=(m:Int)∧m≤b.length:=by
 by_cases h:(manyD b r).2.bad=none
 ·obtain⟨h0,h1⟩:=many_ok h
  exact⟨(manyD b r).1.toNat,by omega,by omega⟩
 ·refine⟨0, ?_,Nat.zero_le _⟩
  have hz:(numD b r).2.bad≠none→(numD b r).1=0:=by
   intro h
   unfold numD at h⊢
   cases hr:r.bad with
   |some _=>simp
   |none=>
    rw[hr] at h
    simp only at h⊢
    split at h
    ·rename_i hc;exact absurd hc h
    ·rename_i hc;rw[if_neg hc]
  unfold manyD at h⊢
  dsimp only at h⊢
  split
  ·rfl
  ·rename_i hc
   rw[if_neg hc] at h
   simp[hz h]
theorem function_any {rb:Nat} {b:List UInt8} {r:Drd} {w:World} (h:BrAt rb b r w) (hbl:b.length≤2000000):Calls Tryz.prog 62 #[.pointer (some ⟨rb,0,none⟩)] w fun e w'=>∃fv:Fv,e= .returned (fnV ((funcD b r).1,fv))∧BrAt rb b (funcD b r).2 w'∧RF rb w w'∧
   w'.ownsRow w.heap.size 3 1 (.slice fv.ta (funcD b r).1.taken.length fv.tc) (funcD b r).1.taken.length ((funcD b r).1.taken.map (Value.int .i64))∧w'.ownsRow w.heap.size 36 5 (.slice fv.ca (funcD b r).1.code.length fv.cc) (funcD b r).1.code.length ((funcD b r).1.code.flatMap insCells):=by
 have HR0:=Lib.hid (show RdAt w rb b r w from⟨h,Foot.refl _ _ _,h.lt⟩)
 clear h
 go_enter Tryz.func62,Tryz.ntmps62
 go_wp2_with (first
  |(go_at_call 61;refine(rtext_any (HR0.out.alloc _).at_ (by omega)).mono ?_;rintro e w1 ⟨rfl,hb1,hf1⟩;have HR1:=Lib.hid ((HR0.out.alloc _).post hb1 hf1);have HC1:=Lib.hid ((HR0.out.box _).post HR0.out.old hf1);clear hb1 hf1)
  |(go_at_call 102;first|(refine(number_any HR2.out.at_ (by omega)).mono ?_;rintro e w3 ⟨rfl,hb3,hf3⟩;have HR3:=Lib.hid (HR2.out.post hb3 hf3);have HC3:=Lib.hid (HC2.out.post HR0.out.old hf3);clear hb3 hf3)|(refine(number_any HR1.out.at_ (by omega)).mono ?_;rintro e w2 ⟨rfl,hb2,hf2⟩;have HR2:=Lib.hid (HR1.out.post hb2 hf2);have HC2:=Lib.hid (HC1.out.post HR0.out.old hf2);clear hb2 hf2))
  |(go_at_call 60;refine(many_any (HR3.out.alloc _).at_ (by omega)).mono ?_;rintro e w4 ⟨rfl,hb4,hf4⟩;have HR4:=Lib.hid ((HR3.out.alloc _).post hb4 hf4);have HB4:=Lib.hid ((HR3.out.box _).post HR0.out.old hf4);have HC4:=Lib.hid ((HC3.out.alloc _).post HR0.out.old hf4);clear hb4 hf4))
 have hs:FnSt w rb b w3.heap.size (.string ⟨⟨(textD b r).1⟩⟩) (.int .i64 (numD b (textD b r).2).1) (.int .i64 (numD b (numD b (textD b r).2).2).1) (.slice none 0 0) (.int .i64 0) (.slice none 0 0) [] [] (manyD b (numD b (numD b (textD b r).2).2).2).2 w4:=
  ⟨HR4.out,HB4.out,HC4.out,World.ownsRow_nil _ _ _ _,World.ownsRow_nil _ _ _ _,fun g hg=>by simp[Value.ownBlock] at hg,fun g hg=>by simp[Value.ownBlock] at hg,by have:=HC3.out.lt;omega⟩
 obtain⟨m,hm,hml⟩:=many_nat HR3.out.at_.le
 obtain⟨fb,hfb⟩:∃fb,w3.heap.size=fb:=⟨_,rfl⟩
 obtain⟨S3,hS3⟩:∃S3,(numD b (numD b (textD b r).2).2).2=S3:=⟨_,rfl⟩
 obtain⟨A,hA⟩:∃A,Hid (rowD (numD b) m (manyD b S3).2=A):=⟨_,rfl⟩
 simp only[hfb,hS3] at hs hm⊢
 rw[hm]
 have HS0:=Lib.hid hs
 have HS3':=Lib.hid hS3
 have HM:=Lib.hid hm
 clear HR1 HR2 HR3 HR4 HC1 HC2 HC3 HC4 HB4 hs hS3 hm hfb
 go_loopw [4] (fun s4 wr=>∃(k:Nat) (ts:List Int) (r1:Drd) (vt:Value),s4= .int .i64 k∧k+ts.length≤2000000∧Hid (FnSt w rb b fb (.string ⟨⟨(textD b r).1⟩⟩) (.int .i64 (numD b (textD b r).2).1) (.int .i64 (numD b (numD b (textD b r).2).2).1) vt (.int .i64 0) (.slice none 0 0) ts [] r1 wr)∧Hid (ts++(rowD (numD b) k r1).1=A.1∧(rowD (numD b) k r1).2=A.2)) (fun s4 _=>(intOf s4).toNat)
 case atStart=>exact⟨m,[],_,_,rfl,by simp;omega,HS0,Lib.hid (by rw[hA.out];exact⟨rfl,rfl⟩)⟩
 case round=>
  clear HS0
  obtain⟨k,ts,r1,vt,rfl,hk,HS,HQ⟩:=hrel
  have y2:=HS.out.rd.at_.c2
  obtain⟨G,hG⟩:∃G,Hid ((decide (0<k)&&r1.bad.isNone)=G):=⟨_,rfl⟩
  go_upto_region 3 with fail
  go_cut [23] from 15 to 32 (fun s23 wx=>s23= .bool G∧wx=wr)
  case first=>
   cases k with
   |zero=>
    have d:decide ((0:Int)<((0:Nat):Int))=false:=rfl
    go_wp2_with fail
    go_meet
    exact⟨by rw[←hG.out];rfl,rfl⟩
   |succ k=>
    have d:decide (0<k+1)=true:=by simp
    cases hbad:r1.bad with
    |some i=>
     rw[hbad] at y2
     simp only[badI] at y2
     have d2:decide ((i:Int)<0)=false:=by simp
     go_wp2_with fail
     go_meet
     exact⟨by rw[←hG.out,hbad];simp,rfl⟩
    |none=>
     rw[hbad] at y2
     simp only[badI] at y2
     go_wp2_with fail
     go_meet
     exact⟨by rw[←hG.out,hbad];simp,rfl⟩
  case rest=>
   obtain⟨rfl,rfl⟩:=hcut
   cases G with
   |false=>
    have hq:=HQ.out
    rw[rowD_stop _ _ _ hG.out,List.append_nil] at hq
    dsimp only at hq
    rw[hq.1,hq.2] at HS
    clear hq HQ hG y2
    have c4:=cell_of_row wc fb 4 _ _ _ HS.out.box.1
    have f4:=frozen_of_row wc fb 4 _ _ HS.out.box.1
    go_wp2_with (first
     |(go_at_call 102;refine(number_any HS.out.rd.at_ (by omega)).mono ?_;rintro e w5 ⟨rfl,hb5,hf5⟩;have HS5:=Lib.hid (HS.out.post hb5 hf5);have c5:=cell_of_row w5 fb 4 _ _ _ HS5.out.box.1;have f5:=frozen_of_row w5 fb 4 _ _ HS5.out.box.1;simp only[gq] at c5;clear hb5 hf5)
     |(go_at_call 60;refine(many_any (HS5.out.set4 _).rd.at_ (by omega)).mono ?_;rintro e w6 ⟨rfl,hb6,hf6⟩;have HS6:=Lib.hid ((HS5.out.set4 _).post hb6 hf6);clear hb6 hf6))
    obtain⟨m2,hm2,hml2⟩:=many_nat (HS5.out.set4 (.int .i64 (numD b A.2).1)).rd.at_.le
    obtain⟨S5,hS5⟩:∃S5,numD b A.2=S5:=⟨_,rfl⟩
    obtain⟨C,hC⟩:∃C,Hid (rowD (instD b) m2 (manyD b S5.2).2=C):=⟨_,rfl⟩
    rw[hS5] at hm2 HS6⊢
    rw[hm2]
    have HS5':=Lib.hid hS5
    have HM2:=Lib.hid hm2
    clear hS5 hm2 HS5 HS c4 f4 c5 f5
    go_loopw [5] (fun s5 wr=>∃(k:Nat) (xs:List Ci) (r1:Drd) (vc:Value),s5= .int .i64 k∧k+xs.length≤2000000∧Hid (FnSt w rb b fb (.string ⟨⟨(textD b r).1⟩⟩) (.int .i64 (numD b (textD b r).2).1) (.int .i64 (numD b (numD b (textD b r).2).2).1) vt (.int .i64 S5.1) vc A.1 xs r1 wr)∧Hid (xs++(rowD (instD b) k r1).1=C.1∧(rowD (instD b) k r1).2=C.2)) (fun s5 _=>(intOf s5).toNat)
    case atStart=>exact⟨m2,[],_,_,rfl,by simp;omega,HS6,Lib.hid (by rw[hC.out];exact⟨rfl,rfl⟩)⟩
    case round=>
     clear HS6
     obtain⟨k,xs,r1,vc,rfl,hk,HS,HQ⟩:=hrel
     have y2:=HS.out.rd.at_.c2
     obtain⟨G,hG⟩:∃G,Hid ((decide (0<k)&&r1.bad.isNone)=G):=⟨_,rfl⟩
     go_upto_region 8 with fail
     go_cut [46] from 38 to 64 (fun s23 wx=>s23= .bool G∧wx=wr)
     case first=>
      cases k with
      |zero=>
       have d:decide ((0:Int)<((0:Nat):Int))=false:=rfl
       go_wp2_with fail
       go_meet
       exact⟨by rw[←hG.out];rfl,rfl⟩
      |succ k=>
       have d:decide (0<k+1)=true:=by simp
       cases hbad:r1.bad with
       |some i=>
        rw[hbad] at y2
        simp only[badI] at y2
        have d2:decide ((i:Int)<0)=false:=by simp
        go_wp2_with fail
        go_meet
        exact⟨by rw[←hG.out,hbad];simp,rfl⟩
       |none=>
        rw[hbad] at y2
        simp only[badI] at y2
        go_wp2_with fail
        go_meet
        exact⟨by rw[←hG.out,hbad];simp,rfl⟩
     case rest=>
      obtain⟨rfl,rfl⟩:=hcut
      cases G with
      |false=>
       have hq:=HQ.out
       rw[rowD_stop _ _ _ hG.out,List.append_nil] at hq
       dsimp only at hq
       rw[hq.1,hq.2] at HS
       clear hq HQ hG y2
       obtain⟨A1,k1,rfl,hk1,_⟩:=row_form HS.out.own1
       obtain⟨A2,k2,rfl,hk2,_⟩:=row_form HS.out.own2
       obtain⟨c0,c1,c2,c3,c4,c5⟩:=cr6 wc fb HS.out.box.1
       obtain⟨e0,e1,e2,e3,e4,e5⟩:=cr6 wc w.heap.size HS.out.res.1
       have f0:=frozen_of_row wc w.heap.size 0 _ _ HS.out.res.1
       have f1:=frozen_of_row wc w.heap.size 1 _ _ HS.out.res.1
       have f2:=frozen_of_row wc w.heap.size 2 _ _ HS.out.res.1
       have f3:=frozen_of_row wc w.heap.size 3 _ _ HS.out.res.1
       have f4:=frozen_of_row wc w.heap.size 4 _ _ HS.out.res.1
       have f5:=frozen_of_row wc w.heap.size 5 _ _ HS.out.res.1
       simp only[gq] at c0 c1 c2 c3 c4 c5 e0 e1 e2 e3 e4 e5
       go_wp2_with fail
       have hfun:funcD b r=(⟨⟨⟨(textD b r).1⟩⟩,(numD b (textD b r).2).1,(numD b (numD b (textD b r).2).2).1,A.1,S5.1,C.1⟩,C.2):=by
        unfold funcD
        dsimp only
        rw[HS3'.out,HM.out,Int.toNat_natCast,hA.out,HS5'.out,HM2.out,Int.toNat_natCast,hC.out]
       rw[hfun]
       dsimp only
       have hset:∀k,k≠w.heap.size→∀(v0 v1 v2 v3 v4 v5:Value),((((((wc.setCell ⟨w.heap.size,0,none⟩ v0).setCell ⟨w.heap.size,1,none⟩ v1).setCell ⟨w.heap.size,2,none⟩ v2).setCell ⟨w.heap.size,3,none⟩ v3).setCell ⟨w.heap.size,4,none⟩ v4).setCell ⟨w.heap.size,5,none⟩ v5).heap[k]? =wc.heap[k]? :=by
        intro k hk v0 v1 v2 v3 v4 v5
        iterate 6 rw[Below.heap_setCell _ _ _ _ hk]
       have hrd:=fun(v0 v1 v2 v3 v4 v5:Value)=>(((((HS.out.rd.set (x:=w.heap.size) (Nat.le_refl _) 0 v0).set (x:=w.heap.size) (Nat.le_refl _) 1 v1).set (x:=w.heap.size) (Nat.le_refl _) 2 v2).set (x:=w.heap.size) (Nat.le_refl _) 3 v3).set (x:=w.heap.size) (Nat.le_refl _) 4 v4).set (x:=w.heap.size) (Nat.le_refl _) 5 v5
       refine bodyPost_ret (func_result _ _ w.heap.size (.string ⟨⟨(textD b r).1⟩⟩) (.int .i64 (numD b (textD b r).2).1) (.int .i64 (numD b (numD b (textD b r).2).2).1) (.slice A1 A.1.length k1) (.int .i64 S5.1) (.slice A2 C.1.length k2) rfl ?_ ?_ ?_ ?_ ?_ ?_) rfl ⟨⟨A1,k1,A2,k2⟩,rfl, ?_, ?_, ?_, ?_⟩
       iterate 6 (·first|(simp[e0,e1,e2,e3,e4,e5];done)|(go_simp;done))
       ·exact(hrd _ _ _ _ _ _).at_
       ·exact(hrd _ _ _ _ _ _).foot
       ·exact own_keep HS.out.own1 fun g hg=>hset g (HS.out.n1 g hg).2.1 _ _ _ _ _ _
       ·exact own_keep HS.out.own2 fun g hg=>hset g (HS.out.n2 g hg).2 _ _ _ _ _ _
      |true=>
       obtain⟨k,rfl⟩:∃k',k=k'+1:=by
        cases k with
        |zero=>have:=hG.out;simp at this
        |succ k=>exact⟨k,rfl⟩
       have hbad:r1.bad=none:=by have:=hG.out;simpa using this
       have hq:=HQ.out
       rw[rowD,if_pos hbad] at hq
       dsimp only at hq
       have HQ2:Hid ((xs++ [(instD b r1).1])++(rowD (instD b) k (instD b r1).2).1=C.1∧(rowD (instD b) k (instD b r1).2).2=C.2):=Lib.hid (by rw[←hq.1];exact⟨by simp,hq.2⟩)
       clear hq y2 HQ
       obtain⟨i0,hi,hz0,hz1,hz2⟩:=info_parts instInfo
       go_upto_region 10 with fail
       have HS:=Lib.hid HS.out.drew
       have y3:=cell_of_row _ fb 5 _ _ _ HS.out.box.1
       have g3:=frozen_of_row _ fb 5 _ _ HS.out.box.1
       simp only[gq] at y3
       refine wp_region_G [16] (fun x=>x.cell? ⟨fb,5,none⟩=some (vc)∧x.frozen? ⟨fb,5,none⟩=false) (by rfl) ?_ (fun hHeld=> ?_)
       ·exact⟨y3,g3⟩
       refine tk 0 (h:=tk 1 (h:=tk 2 (h:=tk 4 (h:=tk 6 (h:=tk 8 (h:= ?_))))))
       try simp only[nmC]
       refine tk 10 (h:= ?_)
       try simp only[nmC]
       refine rd1 3 fun KK hKK=> ?_
       go_simp
       go_at_call 102
       refine(number_any HS.out.rd.at_ (by omega)).mono ?_
       rintro e wz ⟨rfl,hbz,hfz⟩
       have HS:=Lib.hid (HS.out.post hbz hfz)
       clear hbz hfz
       try dsimp only
       have y3:=cell_of_row _ fb 5 _ _ _ HS.out.box.1
       have g3:=frozen_of_row _ fb 5 _ _ HS.out.box.1
       simp only[gq] at y3
       refine hKK.out _ _ (⟨y3,g3⟩) (fun hHeld=> ?_)
       clear hKK KK
       try simp only[nmC]
       refine rd1 5 fun KK hKK=> ?_
       go_simp
       go_at_call 102
       refine(number_any HS.out.rd.at_ (by omega)).mono ?_
       rintro e wz ⟨rfl,hbz,hfz⟩
       have HS:=Lib.hid (HS.out.post hbz hfz)
       clear hbz hfz
       try dsimp only
       have y3:=cell_of_row _ fb 5 _ _ _ HS.out.box.1
       have g3:=frozen_of_row _ fb 5 _ _ HS.out.box.1
       simp only[gq] at y3
       refine hKK.out _ _ (⟨y3,g3⟩) (fun hHeld=> ?_)
       clear hKK KK
       try simp only[nmC]
       refine rd1 7 fun KK hKK=> ?_
       go_simp
       go_at_call 102
       refine(number_any HS.out.rd.at_ (by omega)).mono ?_
       rintro e wz ⟨rfl,hbz,hfz⟩
       have HS:=Lib.hid (HS.out.post hbz hfz)
       clear hbz hfz
       try dsimp only
       have y3:=cell_of_row _ fb 5 _ _ _ HS.out.box.1
       have g3:=frozen_of_row _ fb 5 _ _ HS.out.box.1
       simp only[gq] at y3
       refine hKK.out _ _ (⟨y3,g3⟩) (fun hHeld=> ?_)
       clear hKK KK
       try simp only[nmC]
       refine rd1 9 fun KK hKK=> ?_
       go_simp
       go_at_call 61
       refine(rtext_any HS.out.rd.at_ (by omega)).mono ?_
       rintro e wz ⟨rfl,hbz,hfz⟩
       have HS:=Lib.hid (HS.out.post hbz hfz)
       clear hbz hfz
       try dsimp only
       have y3:=cell_of_row _ fb 5 _ _ _ HS.out.box.1
       have g3:=frozen_of_row _ fb 5 _ _ HS.out.box.1
       simp only[gq] at y3
       refine hKK.out _ _ (⟨y3,g3⟩) (fun hHeld=> ?_)
       clear hKK KK
       try simp only[nmC]
       refine rd1 11 fun KK hKK=> ?_
       go_simp
       go_at_call 102
       refine(number_any HS.out.rd.at_ (by omega)).mono ?_
       rintro e wz ⟨rfl,hbz,hfz⟩
       have HS:=Lib.hid (HS.out.post hbz hfz)
       clear hbz hfz
       try dsimp only
       have y3:=cell_of_row _ fb 5 _ _ _ HS.out.box.1
       have g3:=frozen_of_row _ fb 5 _ _ HS.out.box.1
       simp only[gq] at y3
       refine hKK.out _ _ (⟨y3,g3⟩) (fun hHeld=> ?_)
       clear hKK KK
       try simp only[nmC]
       refine tk 12 (h:= ?_)
       try simp only[nmC]
       refine rd1 13 fun KK hKK=> ?_
       go_simp
       refine hKK.out _ _ (⟨(World.cell?_of_block (a:=⟨fb,5,none⟩) (heap_alloc_old _ _ HS.out.box.lt)).trans y3,(frozen_keep (heap_alloc_old _ _ HS.out.box.lt) 5).trans g3⟩) (fun hHeld=> ?_)
       clear hKK KK
       try simp only[nmC]
       refine rd1 14 fun KK hKK=> ?_
       refine step_append_lies _ rfl (.tmp 50) (.tmp 62) 31 rfl w.heap.size 36 i0 _ 5 48 Tryz.underlying31 hi hz0 hz1 hz2 rfl (by decide) _ _ _ rfl (HS.out.own2.alloc _) ⟨_,0,none⟩ 1 1 (insCells (instD b r1).1) rfl rfl (fun k u hu=>news_at _ _ _ _ k u hu) (by intro u hu;simp[insCells] at hu;first|(subst hu;rfl)|(rcases hu with rfl|rfl|rfl|rfl|rfl<;>rfl)) (by decide) (by unfold maxLen;omega) (by omega) (by have:=HS.out.rd.foot.size;simp;omega) _ rfl ?_
       intro g2 cap2 w2 ho2 hg2 hb2 hl2
       obtain⟨hb3,hs3⟩:=HS.out.push2 ho2 hg2 hb2
       have y3:=cell_of_row _ fb 5 _ _ _ hb3
       have g3:=frozen_of_row _ fb 5 _ _ hb3
       simp only[gq] at y3
       have HS3:=Lib.hid hs3
       clear hs3 hb3 ho2 hg2 hb2
       refine hKK.out _ _ (⟨y3,g3⟩) (fun hHeld=> ?_)
       clear hKK KK
       try simp only[nmC]
       refine tk 15 (h:= ?_)
       try simp only[nmC]
       refine rl1 16 fun KK hKK=> ?_
       go_simp
       refine hKK.out _ _ ?_
       clear hKK KK
       try simp only[nmC]
       refine wpAny_done (by kernel_rfl) ?_ _
       go_wp2_with fail
       go_roundw
       case rel=>exact⟨k,_,_,_,by simp,by simp only[List.length_append,List.length_cons,List.length_nil];omega,HS3,HQ2⟩
       case measure=>simp[intOf]
   |true=>
    obtain⟨k,rfl⟩:∃k',k=k'+1:=by
     cases k with
     |zero=>have:=hG.out;simp at this
     |succ k=>exact⟨k,rfl⟩
    have hbad:r1.bad=none:=by have:=hG.out;simpa using this
    have hq:=HQ.out
    rw[rowD,if_pos hbad] at hq
    dsimp only at hq
    have HQ2:Hid ((ts++ [(numD b r1).1])++(rowD (numD b) k (numD b r1).2).1=A.1∧(rowD (numD b) k (numD b r1).2).2=A.2):=Lib.hid (by rw[←hq.1];exact⟨by simp,hq.2⟩)
    clear hq y2
    obtain⟨i0,hi,hz0,hz1,hz2⟩:=info_parts intInfo
    go_upto_region 5 with fail
    have HS:=Lib.hid HS.out.drew
    have y3:=cell_of_row _ fb 3 _ _ _ HS.out.box.1
    have g3:=frozen_of_row _ fb 3 _ _ HS.out.box.1
    simp only[gq] at y3
    refine wp_region_G [7] (fun x=>x.cell? ⟨fb,3,none⟩=some (vt)∧x.frozen? ⟨fb,3,none⟩=false) (by rfl) ?_ (fun hHeld=> ?_)
    ·exact⟨y3,g3⟩
    refine tk 0 (h:=tk 1 (h:=tk 2 (h:= ?_)))
    try simp only[nmC]
    refine rd1 3 fun KK hKK=> ?_
    go_simp
    go_at_call 102
    refine(number_any HS.out.rd.at_ (by omega)).mono ?_
    rintro e wz ⟨rfl,hbz,hfz⟩
    have HS:=Lib.hid (HS.out.post hbz hfz)
    clear hbz hfz
    try dsimp only
    have y3:=cell_of_row _ fb 3 _ _ _ HS.out.box.1
    have g3:=frozen_of_row _ fb 3 _ _ HS.out.box.1
    simp only[gq] at y3
    refine hKK.out _ _ (⟨y3,g3⟩) (fun hHeld=> ?_)
    clear hKK KK
    try simp only[nmC]
    refine rd1 4 fun KK hKK=> ?_
    go_simp
    refine hKK.out _ _ (⟨(World.cell?_of_block (a:=⟨fb,3,none⟩) (heap_alloc_old _ _ HS.out.box.lt)).trans y3,(frozen_keep (heap_alloc_old _ _ HS.out.box.lt) 3).trans g3⟩) (fun hHeld=> ?_)
    clear hKK KK
    try simp only[nmC]
    refine rd1 5 fun KK hKK=> ?_
    refine step_append_lies _ rfl (.tmp 27) (.tmp 30) 22 rfl w.heap.size 3 i0 _ 1 8 Tryz.underlying22 hi hz0 hz1 hz2 rfl (by decide) _ _ _ rfl (HS.out.own1.alloc _) ⟨_,0,none⟩ 1 1 [.int .i64 (numD b r1).1] rfl rfl (fun k u hu=>news_at _ _ _ _ k u hu) (by intro u hu;simp at hu;first|(subst hu;rfl)|(rcases hu with rfl|rfl|rfl|rfl|rfl<;>rfl)) (by decide) (by unfold maxLen;omega) (by omega) (by have:=HS.out.rd.foot.size;simp;omega) _ rfl ?_
    intro g2 cap2 w2 ho2 hg2 hb2 hl2
    obtain⟨hb3,hs3⟩:=HS.out.push1 ho2 hg2 hb2
    have y3:=cell_of_row _ fb 3 _ _ _ hb3
    have g3:=frozen_of_row _ fb 3 _ _ hb3
    simp only[gq] at y3
    have HS3:=Lib.hid hs3
    clear hs3 hb3 ho2 hg2 hb2
    refine hKK.out _ _ (⟨y3,g3⟩) (fun hHeld=> ?_)
    clear hKK KK
    try simp only[nmC]
    refine tk 6 (h:= ?_)
    try simp only[nmC]
    refine rl1 7 fun KK hKK=> ?_
    go_simp
    refine hKK.out _ _ ?_
    clear hKK KK
    try simp only[nmC]
    refine wpAny_done (by kernel_rfl) ?_ _
    go_wp2_with fail
    go_roundw
    case rel=>exact⟨k,_,_,_,by simp,by simp only[List.length_append,List.length_cons,List.length_nil];omega,HS3,HQ2⟩
    case measure=>simp[intOf]
end Go.Proofs.YtagnicbknbmccaaGreatDoor
