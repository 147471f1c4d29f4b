/- code.folded, (*stack).less, code.counted. (*stack).with. code.counted. code.leaves. -/
import Derived.BigQuiet
import Derived.Deep.DeepCutAuto
import Derived.Test.YtagnicbknbmccaaGreatDoorShelf
import Derived.Test.YtagnicbknbmccaaGreatDoorMScanA
import Derived.Test.YtagnicbknbmccaaGreatDoorMCwF
import Derived.Test.YtagnicbknbmccaaGreatDoorCwT
import Derived.Test.YtagnicbknbmccaaGreatDoorSqC
import Derived.Test.YtagnicbknbmccaaGreatDoorMCwH
import Derived.Test.YtagnicbknbmccaaGreatDoorMCyA
set_option maxRecDepth 100000
set_option maxHeartbeats 4000000
namespace Go.Proofs.YtagnicbknbmccaaGreatDoor
open Go.RowKit
theorem nodeCells {ty:TypeId} {w:World} {B:Nat} {T:Tab} (h:Stk ty w B T) {b:Nat} {s:List UInt8} (hb:(b,s)∈T):
  ∃bl,w.cell? ⟨b,0,none⟩=some (.int .u8 (topOf s))∧w.cell? ⟨b,1,none⟩=some bl∧w.cell? ⟨b,2,none⟩=some (.int .i64 s.length)∧belowOf T s bl:=by
 obtain⟨_,_,bl,o0,o1,o2,h1,h2,_⟩:=h.node b s hb
 exact⟨bl,cell_of_row w b 0 _ _ _ h1,cell_of_row w b 1 _ _ _ h1,cell_of_row w b 2 _ _ _ h1,h2⟩
def StkOr (T:Tab) (o:Option (List UInt8)) (v:Value):Prop:=match o with
 |none=>v= .pointer none
 |some s=>∃b,v= .pointer (some ⟨b,0,none⟩)∧(b,s)∈T
theorem less_any {ty:TypeId} {w:World} {B:Nat} {T:Tab} (h:Stk ty w B T) {b:Nat} {s:List UInt8} (hb:(b,s)∈T) (c:UInt8) (hc:c≠0) (n:Int) (hn:n≤9223372036854775807):
  Calls Tryz.prog 127 #[.pointer (some ⟨b,0,none⟩),.int .u8 c.toNat,.int .i64 n] w fun e w'=>w'=w∧∃v,e= .returned v∧StkOr T (lessP s c n.toNat) v:=by
 have H:=Lib.hid h
 clear h
 obtain⟨R,HR⟩:∃R,Hid (lessP s c n.toNat=R):=⟨_,rfl⟩
 rw[HR.out]
 go_enter Tryz.func127,Tryz.ntmps127
 go_wp2_with fail
 go_loopw [0,2] (fun v k wr=>wr=w∧∃(n':Int) (b':Nat) (s':List UInt8),v= .pointer (some ⟨b',0,none⟩)∧k= .int .i64 n'∧n'≤n∧(b',s')∈T∧Hid (lessP s' c n'.toNat=R)) (fun _ k _=>(intOf k).toNat)
 case atStart=>exact⟨rfl,n,b,s,rfl,rfl,Int.le_refl _,hb,HR⟩
 case round=>
  obtain⟨rfl,n',b',s',rfl,rfl,hn',hb',HL⟩:=hrel
  obtain⟨bl,k0,k1,k2,hbl⟩:=nodeCells H.out hb'
  by_cases hn0:n'≤0
  ·have d:decide (0<n')=false:=by simp;omega
   have hl:=HL.out
   rw[show n'.toNat=0 by omega,lessP] at hl
   have HL2:=Lib.hid hl
   clear hl
   go_wp2_with fail
   go_ret
   exact⟨rfl,_,rfl,by rw[←HL2.out];exact⟨b',rfl,hb'⟩⟩
  ·have d:decide (0<n')=true:=by simp;omega
   have hl:=HL.out
   rw[show n'.toNat=(n'-1).toNat+1 by omega] at hl
   have e0:((0:Int) !=(c.toNat:Int))=true:=by simpa using fun e=>hc (UInt8.toNat_inj.1 (by simp;omega))
   cases s' with
   |nil=>
    rw[lessP] at hl
    have HL2:=Lib.hid hl
    simp only[topOf] at k0
    clear hl
    by_cases h63:c=63
    ·subst h63
     go_wp2_with fail
     go_ret
     exact⟨rfl,_,rfl,by rw[←HL2.out];rfl⟩
    ·have e63:((c.toNat:Int) !=63)=true:=by simpa using fun e=>h63 (UInt8.toNat_inj.1 (by simp;omega))
     go_wp2_with fail
     go_ret
     exact⟨rfl,_,rfl,by rw[←HL2.out];rfl⟩
   |cons t r=>
    rw[lessP] at hl
    simp only[topOf] at k0
    obtain⟨b2,rfl,hb2⟩:=hbl
    by_cases htc:t=c
    ·subst htc
     rw[if_pos (.inl rfl)] at hl
     have HL2:=Lib.hid hl
     clear hl
     go_wp2_with fail
     go_roundw
     case rel=>exact⟨by trivial,n'-1,b2,r,rfl,rfl,by omega,hb2,HL2⟩
     case measure=>simp[intOf];omega
    ·have e1:((t.toNat:Int) !=(c.toNat:Int))=true:=by simpa using fun e=>htc (UInt8.toNat_inj.1 (by omega))
     by_cases h63:c=63
     ·subst h63
      by_cases h1:t=118
      ·subst h1
       rw[if_pos (.inr ⟨rfl,.inl rfl⟩)] at hl
       have HL2:=Lib.hid hl
       clear hl
       go_wp2_with fail
       go_roundw
       case rel=>exact⟨by trivial,n'-1,b2,r,rfl,rfl,by omega,hb2,HL2⟩
       case measure=>simp[intOf];omega
      ·by_cases h2:t=112
       ·subst h2
        rw[if_pos (.inr ⟨rfl,.inr rfl⟩)] at hl
        have HL2:=Lib.hid hl
        clear hl
        go_wp2_with fail
        go_roundw
        case rel=>exact⟨by trivial,n'-1,b2,r,rfl,rfl,by omega,hb2,HL2⟩
        case measure=>simp[intOf];omega
       ·have e4:((t.toNat:Int) !=63)=true:=by simpa using fun e=>htc (UInt8.toNat_inj.1 (by simp;omega))
        have e2:((t.toNat:Int) !=118)=true:=by simpa using fun e=>h1 (UInt8.toNat_inj.1 (by simp;omega))
        have e3:((t.toNat:Int) !=112)=true:=by simpa using fun e=>h2 (UInt8.toNat_inj.1 (by simp;omega))
        rw[if_neg (by rintro(e|⟨_,e|e⟩);exact htc e;exact h1 e;exact h2 e)] at hl
        have HL2:=Lib.hid hl
        clear hl
        go_wp2_with fail
        go_ret
        exact⟨rfl,_,rfl,by rw[←HL2.out];rfl⟩
     ·have e63:((c.toNat:Int) !=63)=true:=by simpa using fun e=>h63 (UInt8.toNat_inj.1 (by simp;omega))
      rw[if_neg (by rintro(e|⟨e,_⟩);exact htc e;exact h63 e)] at hl
      have HL2:=Lib.hid hl
      clear hl
      go_wp2_with fail
      go_ret
      exact⟨rfl,_,rfl,by rw[←HL2.out];rfl⟩
theorem folded_any (n:Int) (hn:okI n) (w:World):Calls Tryz.prog 87 #[.int .i64 n] w fun e w'=>e= .returned (.int .u64 (foldN n))∧w'=w:=by
 go_enter Tryz.func87,Tryz.ntmps87
 have hx:=fold_law n hn
 go_wp2_with fail
 go_ret
 exact⟨ret_int (by first|rfl|exact hx),rfl⟩
def WithPost (w:World) (B:Nat) (T:Tab) (c:UInt8) (s:List UInt8) (e:Ending) (w':World):Prop:=
 ∃g T',e= .returned (.pointer (some ⟨g,0,none⟩))∧(g,c::s)∈T'∧Stk 125 w' B T'∧(∀x∈T,x∈T')∧(∀x∈T',x∈T∨w.heap.size≤x.1)∧Foot w.heap.size (fun k=>∃s,(k,s)∈T) w w'
theorem WithPost.there {w w':World} {B:Nat} {T:Tab} {c:UInt8} {s:List UInt8} {g:Nat} (h:Stk 125 w B T) (hg:(g,c::s)∈T) (he:w'=w):WithPost w B T c s (.returned (.pointer (some ⟨g,0,none⟩))) w':=by
 subst he
 exact⟨g,T,rfl,hg,h,fun _ h=>h,fun _ h=> .inl h,Foot.refl _ _ _⟩
theorem with_new {w:World} {B:Nat} {T:Tab} {c:UInt8} {b j:Nat} {s:List UInt8} {bl o0 o1 o2:Value} (h:Stk 125 w B T) (hb:(b,s)∈T) (hno:∀b',(b',c::s) ∉ T)
  (hrow:w.heap[b]? =some (.cells #[.int .u8 (topOf s),bl,.int .i64 s.length,o0,o1,o2] 125 (0,0))) (hj:(c=118∧j=3∧o0= .pointer none)∨(c=112∧j=4∧o1= .pointer none)∨(c=116∧j=5∧o2= .pointer none)):
  WithPost w B T c s (.returned (.pointer (some ⟨w.heap.size,0,none⟩))) (((w.setCell ⟨b,j,none⟩ (.pointer (some ⟨w.heap.size,0,none⟩))).alloc (.cells #[.int .u8 c.toNat,.pointer (some ⟨b,0,none⟩),.int .i64 ((s.length:Int)+1),.pointer none,.pointer none,.pointer none] 125 (0,0))).drew):=by
 have hlt:b<w.heap.size:=(h.node b s hb).2.1
 have hs:(w.setCell ⟨b,j,none⟩ (.pointer (some ⟨w.heap.size,0,none⟩))).heap.size=w.heap.size:=by simp
 have hn:=heap_alloc_new (w.setCell ⟨b,j,none⟩ (.pointer (some ⟨w.heap.size,0,none⟩))) (.cells #[.int .u8 c.toNat,.pointer (some ⟨b,0,none⟩),.int .i64 ((s.length:Int)+1),.pointer none,.pointer none,.pointer none] 125 (0,0))
 rw[hs] at hn
 have hk:∀k,k<w.heap.size→k≠b→((w.setCell ⟨b,j,none⟩ (.pointer (some ⟨w.heap.size,0,none⟩))).alloc (.cells #[.int .u8 c.toNat,.pointer (some ⟨b,0,none⟩),.int .i64 ((s.length:Int)+1),.pointer none,.pointer none,.pointer none] 125 (0,0))).heap[k]? =w.heap[k]? :=fun k hk hne=>
  (heap_alloc_old _ _ (by rw[hs];exact hk)).trans (Below.heap_setCell w _ _ _ hne)
 have hset:=heap_setCell_same w b j _ _ (.pointer (some ⟨w.heap.size,0,none⟩)) hrow
 have hset2:=(heap_alloc_old (w.setCell ⟨b,j,none⟩ (.pointer (some ⟨w.heap.size,0,none⟩))) (.cells #[.int .u8 c.toNat,.pointer (some ⟨b,0,none⟩),.int .i64 ((s.length:Int)+1),.pointer none,.pointer none,.pointer none] 125 (0,0)) (by rw[hs];exact hlt)).trans hset
 refine⟨w.heap.size,(w.heap.size,c::s)::T,rfl,List.mem_cons_self .., ?_,fun x hx=> .tail _ hx,fun x hx=> ?_, ?_⟩
 ·refine h.add (b:=b) hb hno (fun s' hs'=> ?_) (Nat.le_trans (h.node b s hb).1 (Nat.le_of_lt hlt)) (by show w.heap.size<_;simp) (hn.trans (by push_cast;rfl)) ⟨bl,o0,o1,o2,hrow, ?_⟩ (fun b' s' hb' hne=>hk b' (h.node b' s' hb').2.1 hne)
  ·exact absurd (h.node _ _ hs').2.1 (Nat.lt_irrefl _)
  ·rcases hj with⟨rfl,rfl,_⟩|⟨rfl,rfl,_⟩|⟨rfl,rfl,_⟩
   ·exact .inl ⟨rfl,hset2⟩
   ·exact .inr (.inl ⟨rfl,hset2⟩)
   ·exact .inr (.inr ⟨rfl,hset2⟩)
 ·rcases List.mem_cons.1 hx with e|hx
  ·rw[e];exact .inr (Nat.le_refl _)
  ·exact .inl hx
 ·exact⟨rfl,rfl,rfl,by show w.heap.size≤_;simp,fun k hk2 hn2=>hk k hk2 (fun e=>hn2 ⟨s,by rw[e];exact hb⟩)⟩
theorem with_any {w:World} {B:Nat} {T:Tab} (h:Stk 125 w B T) {b:Nat} {s:List UInt8} (hb:(b,s)∈T) (c:UInt8) (hc:c=118∨c=112∨c=116) (hs:s.length≤100000):
  Calls Tryz.prog 128 #[.pointer (some ⟨b,0,none⟩),.int .u8 c.toNat] w (WithPost w B T c s):=by
 obtain⟨hB,hblt,bl,o0,o1,o2,hrow,hbl,h0,h1,h2⟩:=h.node b s hb
 have k2:=cell_of_row w b 2 _ _ _ hrow
 have k3:=cell_of_row w b 3 _ _ _ hrow
 have k4:=cell_of_row w b 4 _ _ _ hrow
 have k5:=cell_of_row w b 5 _ _ _ hrow
 have f3:=frozen_of_row w b 3 _ _ hrow
 have f4:=frozen_of_row w b 4 _ _ hrow
 have f5:=frozen_of_row w b 5 _ _ hrow
 simp only[gq] at k2 k3 k4 k5
 have hwr:IntKind.i64.wrap ((s.length:Int)+1)=(s.length:Int)+1:=by rw[IntKind.wrap_i64];omega
 have H:=Lib.hid h
 have HR:=Lib.hid hrow
 clear h hrow
 go_enter Tryz.func128,Tryz.ntmps128
 rcases hc with rfl|rfl|rfl
 ·rcases h0 with⟨rfl,hno⟩|⟨g,rfl,hg⟩
  ·go_wp2_with (go_at_call 165;refine(Tryz.strings_IndexByte _ _ _).mono ?_;rintro e w1 ⟨rfl,rfl⟩;rw[show Lib.indexByte _ _=0 by kernel_rfl])
   refine wp_region_G [] (fun x=>x.cell? ⟨b,2,none⟩=some (.int .i64 s.length)) (by rfl) ?_ (fun hHeld=> ?_)
   ·exact k2
   refine tk 0 (h:=tk 1 (h:=tk 2 (h:=tk 3 (h:=tk 4 (h:=tk 5 (h:= ?_))))))
   try simp only[nmC]
   refine tk 6 (h:=tk 7 (h:=tk 8 (h:=tk 9 (h:=tk 11 (h:=tk 12 (h:= ?_))))))
   try simp only[nmC]
   refine rd1 10 fun KK hKK=> ?_
   go_simp
   refine hKK.out _ _ (cell_of_row _ b 2 _ _ _ ((heap_alloc_old _ _ hblt).trans HR.out)) (fun hHeld=> ?_)
   clear hKK KK
   try simp only[nmC]
   refine tk 13 (h:= ?_)
   try simp only[nmC]
   refine rd1 14 fun KK hKK=> ?_
   go_simp
   refine hKK.out _ _ (cell_of_row _ b 2 _ _ _ ((heap_alloc_old _ _ (by simpa using hblt)).trans (heap_setCell_same _ b 3 _ _ _ HR.out))) (fun hHeld=> ?_)
   clear hKK KK
   try simp only[nmC]
   refine wpAnyG_done (by kernel_rfl) ?_ _
   go_wp2_with fail
   go_ret
   exact with_new H.out hb hno HR.out (j:=3) ((.inl ⟨rfl,rfl,rfl⟩))
  ·go_wp2_with (go_at_call 165;refine(Tryz.strings_IndexByte _ _ _).mono ?_;rintro e w1 ⟨rfl,rfl⟩;rw[show Lib.indexByte _ _=0 by kernel_rfl])
   go_ret
   exact WithPost.there H.out hg rfl
 ·rcases h1 with⟨rfl,hno⟩|⟨g,rfl,hg⟩
  ·go_wp2_with (go_at_call 165;refine(Tryz.strings_IndexByte _ _ _).mono ?_;rintro e w1 ⟨rfl,rfl⟩;rw[show Lib.indexByte _ _=1 by kernel_rfl])
   refine wp_region_G [] (fun x=>x.cell? ⟨b,2,none⟩=some (.int .i64 s.length)) (by rfl) ?_ (fun hHeld=> ?_)
   ·exact k2
   refine tk 0 (h:=tk 1 (h:=tk 2 (h:=tk 3 (h:=tk 4 (h:=tk 5 (h:= ?_))))))
   try simp only[nmC]
   refine tk 6 (h:=tk 7 (h:=tk 8 (h:=tk 9 (h:=tk 11 (h:=tk 12 (h:= ?_))))))
   try simp only[nmC]
   refine rd1 10 fun KK hKK=> ?_
   go_simp
   refine hKK.out _ _ (cell_of_row _ b 2 _ _ _ ((heap_alloc_old _ _ hblt).trans HR.out)) (fun hHeld=> ?_)
   clear hKK KK
   try simp only[nmC]
   refine tk 13 (h:= ?_)
   try simp only[nmC]
   refine rd1 14 fun KK hKK=> ?_
   go_simp
   refine hKK.out _ _ (cell_of_row _ b 2 _ _ _ ((heap_alloc_old _ _ (by simpa using hblt)).trans (heap_setCell_same _ b 4 _ _ _ HR.out))) (fun hHeld=> ?_)
   clear hKK KK
   try simp only[nmC]
   refine wpAnyG_done (by kernel_rfl) ?_ _
   go_wp2_with fail
   go_ret
   exact with_new H.out hb hno HR.out (j:=4) ((.inr (.inl ⟨rfl,rfl,rfl⟩)))
  ·go_wp2_with (go_at_call 165;refine(Tryz.strings_IndexByte _ _ _).mono ?_;rintro e w1 ⟨rfl,rfl⟩;rw[show Lib.indexByte _ _=1 by kernel_rfl])
   go_ret
   exact WithPost.there H.out hg rfl
 ·rcases h2 with⟨rfl,hno⟩|⟨g,rfl,hg⟩
  ·go_wp2_with (go_at_call 165;refine(Tryz.strings_IndexByte _ _ _).mono ?_;rintro e w1 ⟨rfl,rfl⟩;rw[show Lib.indexByte _ _=2 by kernel_rfl])
   refine wp_region_G [] (fun x=>x.cell? ⟨b,2,none⟩=some (.int .i64 s.length)) (by rfl) ?_ (fun hHeld=> ?_)
   ·exact k2
   refine tk 0 (h:=tk 1 (h:=tk 2 (h:=tk 3 (h:=tk 4 (h:=tk 5 (h:= ?_))))))
   try simp only[nmC]
   refine tk 6 (h:=tk 7 (h:=tk 8 (h:=tk 9 (h:=tk 11 (h:=tk 12 (h:= ?_))))))
   try simp only[nmC]
   refine rd1 10 fun KK hKK=> ?_
   go_simp
   refine hKK.out _ _ (cell_of_row _ b 2 _ _ _ ((heap_alloc_old _ _ hblt).trans HR.out)) (fun hHeld=> ?_)
   clear hKK KK
   try simp only[nmC]
   refine tk 13 (h:= ?_)
   try simp only[nmC]
   refine rd1 14 fun KK hKK=> ?_
   go_simp
   refine hKK.out _ _ (cell_of_row _ b 2 _ _ _ ((heap_alloc_old _ _ (by simpa using hblt)).trans (heap_setCell_same _ b 5 _ _ _ HR.out))) (fun hHeld=> ?_)
   clear hKK KK
   try simp only[nmC]
   refine wpAnyG_done (by kernel_rfl) ?_ _
   go_wp2_with fail
   go_ret
   exact with_new H.out hb hno HR.out (j:=5) ((.inr (.inr ⟨rfl,rfl,rfl⟩)))
  ·go_wp2_with (go_at_call 165;refine(Tryz.strings_IndexByte _ _ _).mono ?_;rintro e w1 ⟨rfl,rfl⟩;rw[show Lib.indexByte _ _=2 by kernel_rfl])
   go_ret
   exact WithPost.there H.out hg rfl
def insV (x:Ci):Value:= .agg #[.int .i64 x.op,.int .i64 x.a,.int .i64 x.b,.string x.text,.int .i64 x.at_]
theorem Below.drewN' {B:Nat} {a b:World} (h:Below B a b) (k:Nat):Below B a (b.drewN k):=⟨h.os,h.tape,h.output,h.size,h.block⟩
def CountedOk (x:Ci):Prop:=∀w,Calls Tryz.prog 126 #[insV x] w fun e w'=>e= .returned (.tuple #[.int .u8 (countedP x).1.toNat,.int .i64 (countedP x).2])∧Below w.heap.size w w'
theorem counted_any (x:Ci) (hc:0≤(countedP x).2∧(countedP x).2≤40000) (hs:x.op≠26):CountedOk x:=by
 intro w
 obtain⟨op,a,b,text,at_⟩:=x
 simp only[insV]
 dsimp only at hs
 have HC:=Lib.hid hc
 clear hc
 have ht:op=27∨op=29∨op=46∨op=47∨op=48∨op=49∨op=28∨op=53∨(op≠27∧op≠29∧op≠46∧op≠47∧op≠48∧op≠49∧op≠28∧op≠53):=by omega
 go_enter Tryz.func126,Tryz.ntmps126
 rcases ht with rfl|rfl|rfl|rfl|rfl|rfl|rfl|rfl|⟨h1,h2,h3,h4,h5,h6,h7,h9⟩
 iterate 6
  ·go_wp2_with fail
   go_quiet (fail)
   go_wp2_with fail
   go_ret2
   exact⟨by simp[countedP],Below.drewN' ((Below.refl _ _).alloc (Nat.le_refl _) _) _⟩
 ·have h2:=HC.out
  simp only[countedP] at h2
  simp at h2
  go_wp2_with fail
  go_quiet (fail)
  go_wp2_with fail
  go_ret2
  exact⟨by simp[countedP],Below.drewN' ((Below.refl _ _).alloc (Nat.le_refl _) _) _⟩
 ·go_wp2_with fail
  go_quiet (fail)
  go_wp2_with fail
  go_ret2
  exact⟨by simp[countedP],Below.drewN' ((Below.refl _ _).alloc (Nat.le_refl _) _) _⟩
 ·have g1:(op==27)=false:=by simp[h1]
  have g2:(op==29)=false:=by simp[h2]
  have g3:(op==46)=false:=by simp[h3]
  have g4:(op==47)=false:=by simp[h4]
  have g5:(op==48)=false:=by simp[h5]
  have g6:(op==49)=false:=by simp[h6]
  have g7:(op==28)=false:=by simp[h7]
  have g8:(op==26)=false:=by simp[hs]
  have g9:(op==53)=false:=by simp[h9]
  go_wp2_with fail
  go_ret2
  exact⟨by simp[countedP,h1,h2,h3,h4,h5,h6,h7,hs,h9],(Below.refl _ _).alloc (Nat.le_refl _) _⟩
def LeavesPost (w:World) (B:Nat) (T:Tab) (o:Option (List UInt8×List UInt8)) (e:Ending) (w':World):Prop:=
 ∃T',Stk 125 w' B T'∧(∀x∈T,x∈T')∧(∀x∈T',x∈T∨w.heap.size≤x.1)∧Foot w.heap.size (fun k=>∃s,(k,s)∈T) w w'∧
  match o with
  |none=>∃v,e= .returned (.tuple #[.pointer none,v])
  |some (a,b)=>∃ga gb,e= .returned (.tuple #[.pointer (some ⟨ga,0,none⟩),.pointer (some ⟨gb,0,none⟩)])∧(ga,a)∈T'∧(gb,b)∈T'
theorem forms_bytes (op:Int):(∀c∈(formOf op).takes,c≠0)∧(∀c∈(formOf op).lays,c=118∨c=112∨c=116)∧(formOf op).takes.length≤2∧(formOf op).lays.length≤3∧(formOf op).a≤11:=by
 have hall:∀F∈formsT,(∀c∈F.takes,c≠0)∧(∀c∈F.lays,c=118∨c=112∨c=116)∧F.takes.length≤2∧F.lays.length≤3∧F.a≤11:=by decide
 unfold formOf
 split
 ·rw[List.getD_eq_getElem?_getD]
  cases h:formsT[op.toNat]? with
  |none=>simp[Cform.no]
  |some F=>exact hall F (List.mem_of_getElem? h)
 ·simp[Cform.no]
def takesO (o:Option (List UInt8)) (l:List UInt8):Option (List UInt8):=match o with
 |none=>none
 |some s=>takesP s l
def tailP (op:Int) (F:Cform) (o:Option (List UInt8)):Option (List UInt8×List UInt8):=match o with
 |none=>none
 |some s2=>match laysP s2 F.lays with
  |none=>none
  |some s3=>some (s3,if op=36∨op=37 then 118::s2 else s2)
def pairO (th:List UInt8):Option (List UInt8)→Option (List UInt8×List UInt8)
 |none=>none
 |some s3=>some (s3,th)
theorem tail_some (op:Int) (F:Cform) (s2:List UInt8):tailP op F (some s2)=pairO (if op=36∨op=37 then 118::s2 else s2) (laysP s2 F.lays):=by
 unfold tailP
 simp only
 cases laysP s2 F.lays<;>rfl
theorem leaves_eq (x:Ci) (s:List UInt8):leavesP x s=tailP x.op (formOf x.op) (takesO (lessP s (countedP x).1 (countedP x).2.toNat) (formOf x.op).takes.reverse):=by
 unfold leavesP
 cases lessP s (countedP x).1 (countedP x).2.toNat with
 |none=>rfl
 |some s1=>
  simp only[takesO]
  cases takesP s1 (formOf x.op).takes.reverse with
  |none=>rfl
  |some s2=>rfl
theorem takesO_step {o:Option (List UInt8)} {l:List UInt8} {i:Nat} {c:UInt8} (hc:l[i]? =some c):takesO o ((l.take (i+1)).reverse)=match o with
  |none=>none
  |some s=>takesO (lessP s c 1) ((l.take i).reverse):=by
 have e:l.take (i+1)=l.take i++ [c]:=by rw[List.take_add_one,hc];rfl
 cases o with
 |none=>rfl
 |some s=>
  simp only[takesO]
  rw[e,List.reverse_append]
  show takesP s (c::(l.take i).reverse)=_
  rw[takesP]
  cases lessP s c 1<;>rfl
theorem less_len {c:UInt8}:∀(n:Nat) (s:List UInt8) {s':List UInt8},lessP s c n=some s'→s'.length≤s.length
 |0,s,s',h=>by
  rw[lessP] at h
  injection h with h
  rw[h]
  exact Nat.le_refl _
 |n+1,[],s',h=>by rw[lessP] at h;cases h
 |n+1,t::r,s',h=>by
  rw[lessP] at h
  split at h
  ·have:=less_len n r h
   simp only[List.length_cons]
   omega
  ·cases h
theorem node_deep {ty:TypeId} {w:World} {B:Nat} {T:Tab} (h:Stk ty w B T) {b:Nat} {c:UInt8} {s:List UInt8} (hb:(b,c::s)∈T):w.cell? ⟨b,2,none⟩=some (.int .i64 ((s.length:Int)+1)):=by
 obtain⟨_,_,_,k2,_⟩:=nodeCells h hb
 rw[k2]
 simp
structure LvAt (w:World) (B:Nat) (T:Tab) (x:Ci) (F:Cform) (xb fb:Nat) (T':Tab) (W:World):Prop where
 xr:W.heap[xb]? =some (.cells #[.int .i64 x.op,.int .i64 x.a,.int .i64 x.b,.string x.text,.int .i64 x.at_] 36 (0,0))
 fr:W.heap[fb]? =some (.cells #[.string ⟨⟨F.word⟩⟩,.int .i64 F.a,.int .i64 F.text,.string ⟨⟨F.takes⟩⟩,.string ⟨⟨F.lays⟩⟩] 86 (0,0))
 stk:Stk 125 W B T'
 sub:∀y∈T,y∈T'
 new:∀y∈T',y∈T∨w.heap.size≤y.1
 foot:Foot w.heap.size (fun k=>∃s,(k,s)∈T) w W
 xn:∀s,(xb,s) ∉ T'
 fn:∀s,(fb,s) ∉ T'
theorem LvAt.with {w W W':World} {B xb fb:Nat} {T T':Tab} {x:Ci} {F:Cform} {c:UInt8} {s:List UInt8} {e:Ending} (h:LvAt w B T x F xb fb T' W) (hp:WithPost W B T' c s e W'):
  ∃g T'',e= .returned (.pointer (some ⟨g,0,none⟩))∧(g,c::s)∈T''∧LvAt w B T x F xb fb T'' W'∧∀y∈T',y∈T'':=by
 obtain⟨g,T'',he,hg,hs,hsub,hnew,hf⟩:=hp
 have hxl:=(Array.getElem?_eq_some_iff.1 h.xr).1
 have hfl:=(Array.getElem?_eq_some_iff.1 h.fr).1
 refine⟨g,T'',he,hg,⟨?_, ?_,hs,fun y hy=>hsub y (h.sub y hy),fun y hy=> ?_, ?_,fun s hs2=> ?_,fun s hs2=> ?_⟩,hsub⟩
 ·rw[hf.block xb hxl (fun⟨s,hs⟩=>h.xn s hs)];exact h.xr
 ·rw[hf.block fb hfl (fun⟨s,hs⟩=>h.fn s hs)];exact h.fr
 ·rcases hnew y hy with hy|hy
  ·exact h.new y hy
  ·exact .inr (Nat.le_trans h.foot.size hy)
 ·refine h.foot.trans (hf.mono h.foot.size fun k hk ⟨s,hs⟩=> ?_)
  rcases h.new _ hs with hs|hs
  ·exact⟨s,hs⟩
  ·exact absurd hk (Nat.not_lt.2 hs)
 ·rcases hnew _ hs2 with hs2|hs2
  ·exact h.xn s hs2
  ·exact absurd hxl (Nat.not_lt.2 hs2)
 ·rcases hnew _ hs2 with hs2|hs2
  ·exact h.fn s hs2
  ·exact absurd hfl (Nat.not_lt.2 hs2)
theorem LvAt.xc {w W:World} {B xb fb:Nat} {T T':Tab} {x:Ci} {F:Cform} (h:LvAt w B T x F xb fb T' W):W.cell? ⟨xb,0,none⟩=some (.int .i64 x.op):=cell_of_row W xb 0 _ _ _ h.xr
theorem LvAt.fc {w W:World} {B xb fb:Nat} {T T':Tab} {x:Ci} {F:Cform} (h:LvAt w B T x F xb fb T' W):W.cell? ⟨fb,3,none⟩=some (.string ⟨⟨F.takes⟩⟩)∧W.cell? ⟨fb,4,none⟩=some (.string ⟨⟨F.lays⟩⟩):=⟨cell_of_row W fb 3 _ _ _ h.fr,cell_of_row W fb 4 _ _ _ h.fr⟩
theorem leaves_any {x:Ci} (hcnt:CountedOk x) (hc:0≤(countedP x).2∧(countedP x).2≤40000) {w:World} {B:Nat} {T:Tab} (h:Stk 125 w B T) {b:Nat} {s:List UInt8} (hb:(b,s)∈T) (hs:s.length≤30000):
  Calls Tryz.prog 85 #[insV x,.pointer (some ⟨b,0,none⟩)] w (LeavesPost w B T (leavesP x s)):=by
 obtain⟨R,HR⟩:∃R,Hid (leavesP x s=R):=⟨_,rfl⟩
 rw[HR.out]
 have HC:=Lib.hid hcnt
 obtain⟨cc,cn,hcp⟩:∃cc cn,countedP x=(cc,cn):=⟨_,_,rfl⟩
 have hcc:cc≠0:=by
  have:(countedP x).1=cc:=by rw[hcp]
  rw[←this]
  have h1:(118:UInt8)≠0:=by decide
  have h2:(116:UInt8)≠0:=by decide
  unfold countedP
  split
  ·exact h1
  ·split
   ·exact h1
   ·split
    ·exact h1
    ·split
     ·exact h2
     ·exact h1
 rw[hcp] at hc
 dsimp only at hc
 have hl:=HR.out
 rw[leaves_eq,hcp] at hl
 dsimp only at hl
 have HFM:=Lib.hid (forms_call x.op)
 have HFB:=Lib.hid (forms_bytes x.op)
 obtain⟨F,hF⟩:∃F,formOf x.op=F:=⟨_,rfl⟩
 rw[hF] at HFM HFB hl
 have HL:=Lib.hid hl
 have HX:Hid (insV x= .agg #[.int .i64 x.op,.int .i64 x.a,.int .i64 x.b,.string x.text,.int .i64 x.at_]):=rfl
 have HK:Hid (∀w,Calls Tryz.prog 126 #[.agg #[.int .i64 x.op,.int .i64 x.a,.int .i64 x.b,.string x.text,.int .i64 x.at_]] w fun e w'=>e= .returned (.tuple #[.int .u8 cc.toNat,.int .i64 cn])∧Below w.heap.size w w'):=Lib.hid fun w=>by
  have:=HC.out w
  rw[hcp] at this
  exact this
 rw[HX.out]
 clear hl hcp hcnt
 have H:=Lib.hid h
 clear h
 go_enter Tryz.func85,Tryz.ntmps85
 go_wp2_with (first
  |(go_at_call 126;refine(HK.out _).mono ?_;rintro e w1 ⟨rfl,hb1⟩;have hx1:=(hb1.block w.heap.size (by simp)).trans (heap_alloc_new w _);have k0:=cell_of_row w1 _ 0 _ _ _ hx1;have HS1:Hid (Stk 125 w1 B T):=Lib.hid (H.out.keep fun b s hb=>(hb1.block b (by have:=(H.out.node b s hb).2.1;simp;omega)).trans (heap_alloc_old w _ (H.out.node b s hb).2.1));have HX1:=Lib.hid hx1;clear hx1)
  |(go_at_call 127;refine(less_any HS1.out hb cc hcc cn (by omega)).mono ?_;rintro e w2 ⟨rfl,v,rfl,hv⟩)
  |(go_at_call 44;refine(HFM.out _).mono ?_;rintro e w3 ⟨rfl,hb3⟩))
 have hW0:LvAt w B T x F w.heap.size w3.heap.size T (w3.alloc (.cells #[.string ⟨⟨F.word⟩⟩,.int .i64 F.a,.int .i64 F.text,.string ⟨⟨F.takes⟩⟩,.string ⟨⟨F.lays⟩⟩] 86 (0,0))):=by
  have hx2:=(heap_alloc_old w3 (.cells #[.string ⟨⟨F.word⟩⟩,.int .i64 F.a,.int .i64 F.text,.string ⟨⟨F.takes⟩⟩,.string ⟨⟨F.lays⟩⟩] 86 (0,0)) (show w.heap.size<w3.heap.size by have:=hb1.size;have:=hb3.size;simp at*;omega)).trans ((hb3.block _ (by have:=hb1.size;simp at*;omega)).trans HX1.out)
  have hbW:Below w.heap.size w (w3.alloc (.cells #[.string ⟨⟨F.word⟩⟩,.int .i64 F.a,.int .i64 F.text,.string ⟨⟨F.takes⟩⟩,.string ⟨⟨F.lays⟩⟩] 86 (0,0))):=(((Below.refl w.heap.size w).alloc (Nat.le_refl _) _).trans ((hb1.mono (by simp)).trans (hb3.mono (by have:=hb1.size;simp at*;omega)))).alloc (by have:=hb1.size;have:=hb3.size;simp at*;omega) _
  refine⟨hx2,heap_alloc_new _ _,H.out.keep fun b s hb=>hbW.block b (H.out.node b s hb).2.1,fun _ h=>h,fun _ h=> .inl h,Foot.of hbW,fun s hs=> ?_,fun s hs=> ?_⟩
  ·exact absurd (H.out.node _ s hs).2.1 (Nat.lt_irrefl _)
  ·have:=(H.out.node _ s hs).2.1
   have:=hb1.size;have:=hb3.size;simp at*;omega
 obtain⟨xb,hxb⟩:∃xb,w.heap.size=xb:=⟨_,rfl⟩
 obtain⟨fb,hfb⟩:∃fb,w3.heap.size=fb:=⟨_,rfl⟩
 obtain⟨W0,hWW⟩:∃W0,w3.alloc (.cells #[.string ⟨⟨F.word⟩⟩,.int .i64 F.a,.int .i64 F.text,.string ⟨⟨F.takes⟩⟩,.string ⟨⟨F.lays⟩⟩] 86 (0,0))=W0:=⟨_,rfl⟩
 rw[hWW,hfb] at hW0
 simp only[hxb] at hW0
 rw[hWW]
 simp only[hxb,hfb]
 have HLV:Hid (LvAt w B T x F xb fb T W0):=Lib.hid (by simpa only[hxb] using hW0)
 obtain⟨TR,HTR⟩:∃TR,Hid (takesO (lessP s cc cn.toNat) F.takes.reverse=TR):=⟨_,rfl⟩
 have hL2:tailP x.op F TR=R:=by rw[←HL.out,HTR.out]
 have HL2:=Lib.hid hL2
 have hlen:∀s1,lessP s cc cn.toNat=some s1→s1.length≤30000:=fun s1 e=>Nat.le_trans (less_len _ _ e) hs
 have HLEN:=Lib.hid hlen
 obtain⟨c3,c4⟩:=HLV.out.fc
 have c0:=HLV.out.xc
 obtain⟨_,_,ht2,hl3,_⟩:=HFB.out
 clear hW0 hWW hL2 hlen hxb hfb k0 hb1 hb3 HX1 HS1 HL HC HK HFM HX hF
 go_loopw [1,9] (fun v9 k wr=>wr=W0∧∃(i:Nat) (o:Option (List UInt8)),k= .int .i64 ((i:Int)-1)∧i≤F.takes.length∧StkOr T o v9∧Hid (takesO o ((F.takes.take i).reverse)=TR)∧Hid (∀s1,o=some s1→s1.length≤30000)) (fun _ k _=>(intOf k+1).toNat)
 case atStart=>exact⟨rfl,F.takes.length,_,congrArg _ (by unfold wrap64;omega),Nat.le_refl _,hv,by rw[List.take_length];exact HTR,HLEN⟩
 case round=>
  obtain⟨rfl,i,o,rfl,hi,ho,HO,HOL⟩:=hrel
  cases o with
  |none=>
   obtain rfl:_=Value.pointer none:=ho
   have hR:R=none:=by rw[←HL2.out,←HO.out];rfl
   have HRN:=Lib.hid hR
   clear hR
   by_cases h0:i=0
   ·have d:decide (0≤(i:Int)-1)=false:=by simp;omega
    go_wp2_with fail
    go_ret2
    rw[HRN.out]
    exact⟨T,HLV.out.stk,fun _ h=>h,fun _ h=> .inl h,HLV.out.foot,_,rfl⟩
   ·have d:decide (0≤(i:Int)-1)=true:=by simp;omega
    go_wp2_with fail
    go_ret2
    rw[HRN.out]
    exact⟨T,HLV.out.stk,fun _ h=>h,fun _ h=> .inl h,HLV.out.foot,_,rfl⟩
  |some s1=>
   obtain⟨b1,rfl,hb1⟩:=ho
   by_cases h0:i=0
   ·subst h0
    have hT:TR=some s1:=by rw[←HO.out];rfl
    rw[hT] at HL2
    have hs1:=HOL.out s1 rfl
    clear hT
    by_cases h36:x.op=36∨x.op=37
    ·have hth:(if x.op=36∨x.op=37 then 118::s1 else s1)=118::s1:=if_pos h36
     have H36:=Lib.hid h36
     rcases h36 with h36|h36
     ·have e1:(x.op==36)=true:=by simp[h36]
      clear h36
      go_wp2_with (go_at_call 128;refine(with_any HLV.out.stk hb1 118 (.inl rfl) (by omega)).mono ?_;intro e w6 hp;obtain⟨gt,T1,rfl,hgt1,hl1,hsub1⟩:=HLV.out.with hp;have m4a:=hl1.fc.2;have HLV1:=Lib.hid hl1;clear hp hl1;try dsimp only)
      obtain⟨LR,HLR⟩:∃LR,Hid (laysP s1 F.lays=LR):=⟨_,rfl⟩
      have hR2:pairO (118::s1) LR=R:=by rw[←HL2.out,tail_some,HLR.out,if_pos H36.out]
      have HR2:=Lib.hid hR2
      clear hR2 HL2
      go_loopw [1,58] (fun v1 k wr=>∃(j b2:Nat) (s2:List UInt8) (T2:Tab),v1= .pointer (some ⟨b2,0,none⟩)∧k= .int .i64 j∧j≤F.lays.length∧(b2,s2)∈T2∧(gt,118::s1)∈T2∧s2.length≤30000∧Hid (laysP s2 (F.lays.drop j)=LR)∧Hid (LvAt w B T x F xb fb T2 wr)) (fun _ k _=>F.lays.length-(intOf k).toNat)
      case atStart=>exact⟨0,b1,s1,T1,rfl,rfl,Nat.zero_le _,hsub1 _ hb1,hgt1,hs1,HLR,HLV1⟩
      case round=>
       obtain⟨j,b2,s2,T2,rfl,rfl,hj,hb2,hgt,hs2,HLS,HLV2⟩:=hrel
       by_cases hlt:j<F.lays.length
       ·obtain⟨c,hcj⟩:∃c,F.lays[j]? =some c:=⟨_,List.getElem?_eq_getElem hlt⟩
        have hc3:c=118∨c=112∨c=116:=HFB.out.2.1 c (List.mem_of_getElem? hcj)
        have hix:∀h,(⟨⟨F.lays⟩⟩:ByteArray)[j]'h=c:=fun h=>(List.getElem?_eq_some_iff.1 hcj).2
        have hls:=HLS.out
        rw[drop_cons hcj,laysP] at hls
        have m4:=HLV2.out.fc.2
        clear hcj
        by_cases hov:30000<s2.length+1
        ·rw[if_pos hov] at hls
         subst hls
         have d:decide (30000<(s2.length:Int)+1)=true:=by simp;omega
         go_wp2_with (go_at_call 128;refine(with_any HLV2.out.stk hb2 c hc3 (by omega)).mono ?_;intro e w7 hp;obtain⟨g,T3,rfl,hg3,hl3',hsub3⟩:=HLV2.out.with hp;have n2:=node_deep hl3'.stk hg3;have HLV3:=Lib.hid hl3';clear hp hl3';try dsimp only)
         go_ret2
         rw[←HR2.out]
         exact⟨T3,HLV3.out.stk,HLV3.out.sub,HLV3.out.new,HLV3.out.foot,_,rfl⟩
        ·rw[if_neg hov] at hls
         have HLS2:=Lib.hid hls
         have d:decide (30000<(s2.length:Int)+1)=false:=by simp;omega
         clear hls
         go_wp2_with (go_at_call 128;refine(with_any HLV2.out.stk hb2 c hc3 (by omega)).mono ?_;intro e w7 hp;obtain⟨g,T3,rfl,hg3,hl3',hsub3⟩:=HLV2.out.with hp;have n2:=node_deep hl3'.stk hg3;have HLV3:=Lib.hid hl3';clear hp hl3';try dsimp only)
         go_roundw
         case rel=>exact⟨j+1,g,c::s2,T3,rfl,by go_num,by omega,hg3,hsub3 _ hgt,by simp only[List.length_cons];omega,HLS2,HLV3⟩
         case measure=>simp[intOf];omega
       ·obtain rfl:j=F.lays.length:=by omega
        have hls:=HLS.out
        rw[List.drop_length,laysP] at hls
        subst hls
        go_wp2_with fail
        go_ret2
        rw[←HR2.out]
        exact⟨T2,HLV2.out.stk,HLV2.out.sub,HLV2.out.new,HLV2.out.foot,b2,gt,rfl,hb2,hgt⟩
     ·have e1:(x.op==36)=false:=by simp[h36]
      have e2:(x.op==37)=true:=by simp[h36]
      clear h36
      go_wp2_with (go_at_call 128;refine(with_any HLV.out.stk hb1 118 (.inl rfl) (by omega)).mono ?_;intro e w6 hp;obtain⟨gt,T1,rfl,hgt1,hl1,hsub1⟩:=HLV.out.with hp;have m4a:=hl1.fc.2;have HLV1:=Lib.hid hl1;clear hp hl1;try dsimp only)
      obtain⟨LR,HLR⟩:∃LR,Hid (laysP s1 F.lays=LR):=⟨_,rfl⟩
      have hR2:pairO (118::s1) LR=R:=by rw[←HL2.out,tail_some,HLR.out,if_pos H36.out]
      have HR2:=Lib.hid hR2
      clear hR2 HL2
      go_loopw [1,58] (fun v1 k wr=>∃(j b2:Nat) (s2:List UInt8) (T2:Tab),v1= .pointer (some ⟨b2,0,none⟩)∧k= .int .i64 j∧j≤F.lays.length∧(b2,s2)∈T2∧(gt,118::s1)∈T2∧s2.length≤30000∧Hid (laysP s2 (F.lays.drop j)=LR)∧Hid (LvAt w B T x F xb fb T2 wr)) (fun _ k _=>F.lays.length-(intOf k).toNat)
      case atStart=>exact⟨0,b1,s1,T1,rfl,rfl,Nat.zero_le _,hsub1 _ hb1,hgt1,hs1,HLR,HLV1⟩
      case round=>
       obtain⟨j,b2,s2,T2,rfl,rfl,hj,hb2,hgt,hs2,HLS,HLV2⟩:=hrel
       by_cases hlt:j<F.lays.length
       ·obtain⟨c,hcj⟩:∃c,F.lays[j]? =some c:=⟨_,List.getElem?_eq_getElem hlt⟩
        have hc3:c=118∨c=112∨c=116:=HFB.out.2.1 c (List.mem_of_getElem? hcj)
        have hix:∀h,(⟨⟨F.lays⟩⟩:ByteArray)[j]'h=c:=fun h=>(List.getElem?_eq_some_iff.1 hcj).2
        have hls:=HLS.out
        rw[drop_cons hcj,laysP] at hls
        have m4:=HLV2.out.fc.2
        clear hcj
        by_cases hov:30000<s2.length+1
        ·rw[if_pos hov] at hls
         subst hls
         have d:decide (30000<(s2.length:Int)+1)=true:=by simp;omega
         go_wp2_with (go_at_call 128;refine(with_any HLV2.out.stk hb2 c hc3 (by omega)).mono ?_;intro e w7 hp;obtain⟨g,T3,rfl,hg3,hl3',hsub3⟩:=HLV2.out.with hp;have n2:=node_deep hl3'.stk hg3;have HLV3:=Lib.hid hl3';clear hp hl3';try dsimp only)
         go_ret2
         rw[←HR2.out]
         exact⟨T3,HLV3.out.stk,HLV3.out.sub,HLV3.out.new,HLV3.out.foot,_,rfl⟩
        ·rw[if_neg hov] at hls
         have HLS2:=Lib.hid hls
         have d:decide (30000<(s2.length:Int)+1)=false:=by simp;omega
         clear hls
         go_wp2_with (go_at_call 128;refine(with_any HLV2.out.stk hb2 c hc3 (by omega)).mono ?_;intro e w7 hp;obtain⟨g,T3,rfl,hg3,hl3',hsub3⟩:=HLV2.out.with hp;have n2:=node_deep hl3'.stk hg3;have HLV3:=Lib.hid hl3';clear hp hl3';try dsimp only)
         go_roundw
         case rel=>exact⟨j+1,g,c::s2,T3,rfl,by go_num,by omega,hg3,hsub3 _ hgt,by simp only[List.length_cons];omega,HLS2,HLV3⟩
         case measure=>simp[intOf];omega
       ·obtain rfl:j=F.lays.length:=by omega
        have hls:=HLS.out
        rw[List.drop_length,laysP] at hls
        subst hls
        go_wp2_with fail
        go_ret2
        rw[←HR2.out]
        exact⟨T2,HLV2.out.stk,HLV2.out.sub,HLV2.out.new,HLV2.out.foot,b2,gt,rfl,hb2,hgt⟩
    ·have h1:x.op≠36:=fun e=>h36 (.inl e)
     have h2:x.op≠37:=fun e=>h36 (.inr e)
     have e1:(x.op==36)=false:=by simp[h1]
     have e2:(x.op==37)=false:=by simp[h2]
     have H36:=Lib.hid h36
     clear h36 h1 h2
     go_wp2_with fail
     obtain⟨LR,HLR⟩:∃LR,Hid (laysP s1 F.lays=LR):=⟨_,rfl⟩
     have hR2:pairO (s1) LR=R:=by rw[←HL2.out,tail_some,HLR.out,if_neg H36.out]
     have HR2:=Lib.hid hR2
     clear hR2 HL2
     go_loopw [1,58] (fun v1 k wr=>∃(j b2:Nat) (s2:List UInt8) (T2:Tab),v1= .pointer (some ⟨b2,0,none⟩)∧k= .int .i64 j∧j≤F.lays.length∧(b2,s2)∈T2∧(b1,s1)∈T2∧s2.length≤30000∧Hid (laysP s2 (F.lays.drop j)=LR)∧Hid (LvAt w B T x F xb fb T2 wr)) (fun _ k _=>F.lays.length-(intOf k).toNat)
     case atStart=>exact⟨0,b1,s1,T,rfl,rfl,Nat.zero_le _,hb1,hb1,hs1,HLR,HLV⟩
     case round=>
      obtain⟨j,b2,s2,T2,rfl,rfl,hj,hb2,hgt,hs2,HLS,HLV2⟩:=hrel
      by_cases hlt:j<F.lays.length
      ·obtain⟨c,hcj⟩:∃c,F.lays[j]? =some c:=⟨_,List.getElem?_eq_getElem hlt⟩
       have hc3:c=118∨c=112∨c=116:=HFB.out.2.1 c (List.mem_of_getElem? hcj)
       have hix:∀h,(⟨⟨F.lays⟩⟩:ByteArray)[j]'h=c:=fun h=>(List.getElem?_eq_some_iff.1 hcj).2
       have hls:=HLS.out
       rw[drop_cons hcj,laysP] at hls
       have m4:=HLV2.out.fc.2
       clear hcj
       by_cases hov:30000<s2.length+1
       ·rw[if_pos hov] at hls
        subst hls
        have d:decide (30000<(s2.length:Int)+1)=true:=by simp;omega
        go_wp2_with (go_at_call 128;refine(with_any HLV2.out.stk hb2 c hc3 (by omega)).mono ?_;intro e w7 hp;obtain⟨g,T3,rfl,hg3,hl3',hsub3⟩:=HLV2.out.with hp;have n2:=node_deep hl3'.stk hg3;have HLV3:=Lib.hid hl3';clear hp hl3';try dsimp only)
        go_ret2
        rw[←HR2.out]
        exact⟨T3,HLV3.out.stk,HLV3.out.sub,HLV3.out.new,HLV3.out.foot,_,rfl⟩
       ·rw[if_neg hov] at hls
        have HLS2:=Lib.hid hls
        have d:decide (30000<(s2.length:Int)+1)=false:=by simp;omega
        clear hls
        go_wp2_with (go_at_call 128;refine(with_any HLV2.out.stk hb2 c hc3 (by omega)).mono ?_;intro e w7 hp;obtain⟨g,T3,rfl,hg3,hl3',hsub3⟩:=HLV2.out.with hp;have n2:=node_deep hl3'.stk hg3;have HLV3:=Lib.hid hl3';clear hp hl3';try dsimp only)
        go_roundw
        case rel=>exact⟨j+1,g,c::s2,T3,rfl,by go_num,by omega,hg3,hsub3 _ hgt,by simp only[List.length_cons];omega,HLS2,HLV3⟩
        case measure=>simp[intOf];omega
      ·obtain rfl:j=F.lays.length:=by omega
       have hls:=HLS.out
       rw[List.drop_length,laysP] at hls
       subst hls
       go_wp2_with fail
       go_ret2
       rw[←HR2.out]
       exact⟨T2,HLV2.out.stk,HLV2.out.sub,HLV2.out.new,HLV2.out.foot,b2,b1,rfl,hb2,hgt⟩
   ·obtain⟨j,rfl⟩:∃j,i=j+1:=⟨i-1,by omega⟩
    obtain⟨c,hcj⟩:∃c,F.takes[j]? =some c:=⟨_,List.getElem?_eq_getElem (by omega)⟩
    have hcne:c≠0:=HFB.out.1 c (List.mem_of_getElem? hcj)
    have ho2:=HO.out
    rw[takesO_step hcj] at ho2
    have HO2:Hid (takesO (lessP s1 c 1) ((F.takes.take j).reverse)=TR):=ho2
    have hix:∀h,(⟨⟨F.takes⟩⟩:ByteArray)[j]'h=c:=fun h=>(List.getElem?_eq_some_iff.1 hcj).2
    have hjl:j<F.takes.length:=by omega
    have hjj:((j+1:Nat):Int)-1=(j:Int):=by omega
    clear ho2 hcj
    go_wp2_with (go_at_call 127;refine(less_any HLV.out.stk hb1 c hcne 1 (by omega)).mono ?_;rintro e w5 ⟨rfl,v5,rfl,hv5⟩)
    go_roundw
    case rel=>exact⟨by trivial,j,_,by go_num,by omega,hv5,HO2,Lib.hid fun s2 e=>Nat.le_trans (less_len _ _ e) (HOL.out s1 rfl)⟩
    case measure=>simp[intOf]
end Go.Proofs.YtagnicbknbmccaaGreatDoor
