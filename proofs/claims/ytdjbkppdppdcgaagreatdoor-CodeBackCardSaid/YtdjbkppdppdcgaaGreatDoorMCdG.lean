/- What Decode takes is what Encode writes: the bytes again. What Encode writes is what Decode takes. What the makers of right programs make is fine by itself, each instruction, and keeps its stacks. The programs that the laws make of raw numbers are right: a function's code. -/
import Derived.Test.YtdjbkppdppdcgaaGreatDoorMScanA
import Derived.Test.YtdjbkppdppdcgaaGreatDoorMCtL
namespace Go.Proofs.YtdjbkppdppdcgaaGreatDoor
theorem u8_of (c:UInt8) (n:Nat) (h:n=c.toNat):UInt8.ofNat n=c:=by rw[h];exact UInt8.ofNat_toNat
theorem numU_small {f u:Nat} (h:u≤127):numU f u=[UInt8.ofNat u]:=by
 cases f with
 |zero=>rfl
 |succ f=>rw[numU,if_neg (by omega)]
theorem drop_at {b:List UInt8} {i:Nat} {c:UInt8} (h:b[i]? =some c):b.drop i=c::b.drop (i+1):=by
 obtain⟨hi,rfl⟩:=List.getElem?_eq_some_iff.1 h
 exact List.drop_eq_getElem_cons hi
theorem fail_bad (r:Drd) (i:Nat):(r.fail i).bad≠none:=by
 unfold Drd.fail
 split
 ·simp
 ·rename_i h;rw[h];simp
theorem numLoop_ok (b:List UInt8) (frm:Nat):∀(f k u:Nat) (r:Drd),k+f=11→k≤9→r.bad=none→(numLoop b frm f k u r).2.bad=none→
  ∃m:Nat,(numLoop b frm f k u r).1=u+m*2^(7*k)∧(0<k→0<m)∧m<2^(64-7*k)∧b.drop r.at_=numU (10-k) m++b.drop (numLoop b frm f k u r).2.at_
 |0,k,_,_,h,hk,_,_=>by omega
 |f+1,k,u,r,h,hk,hr,hb=>by
  rw[numLoop] at hb⊢
  cases hc:b[r.at_]? with
  |none=>rw[hc] at hb;exact absurd hb (fail_bad _ _)
  |some c=>
   rw[hc] at hb
   simp only at hb⊢
   by_cases h1:(k=9∧1<c.toNat)∨(0<k∧c.toNat=0)
   ·rw[if_pos h1] at hb;exact absurd hb (fail_bad _ _)
   ·rw[if_neg h1] at hb⊢
    have hc8:=c.toNat_lt
    by_cases h2:c.toNat<128
    ·rw[if_pos h2]
     have e:c.toNat % 128=c.toNat:=Nat.mod_eq_of_lt h2
     refine⟨c.toNat,by rw[e],fun h0=>by omega, ?_, ?_⟩
     ·by_cases h9:k=9
      ·subst h9
       have:c.toNat≤1:=by omega
       show c.toNat<2^1
       omega
      ·have:(2:Nat)^7≤2^(64-7*k):=Nat.pow_le_pow_right (by decide) (by omega)
       omega
     ·rw[drop_at hc,numU_small (by omega),u8_of c _ rfl]
      rfl
    ·rw[if_neg h2] at hb⊢
     have hk9:k<9:=by
      rcases Nat.lt_or_ge k 9 with h9|h9
      ·exact h9
      ·exfalso;exact h1 (.inl ⟨by omega,by omega⟩)
     obtain⟨m,e1,e2,e3,e4⟩:=numLoop_ok b frm f (k+1) (u+c.toNat % 128*2^(7*k)) {r with at_:=r.at_+1} (by omega) (by omega) hr hb
     have hm:=e2 (by omega)
     refine⟨c.toNat % 128+128*m, ?_,fun _=>by omega, ?_, ?_⟩
     ·rw[e1,show 7*(k+1)=7*k+7 by omega,Nat.pow_add,Nat.add_mul,Nat.add_assoc]
      congr 2
      rw[show(2:Nat)^7=128 by decide,Nat.mul_comm 128 m,Nat.mul_assoc,Nat.mul_comm 128 (2^(7*k))]
     ·have h3:(2:Nat)^(64-7*k)=128*2^(64-7*(k+1)):=by
       rw[show 64-7*k=7+(64-7*(k+1)) by omega,Nat.pow_add]
      rw[h3]
      omega
     ·have h10:10-k=(10-(k+1))+1:=by omega
      rw[drop_at hc,h10,numU,if_pos (by omega),List.cons_append,show(c.toNat % 128+128*m)/128=m by omega,u8_of c _ (by omega)]
      exact congrArg (c::·) e4
theorem fold_unfold {u:Nat}:foldN (unfoldN u)=u:=by
 unfold foldN unfoldN
 by_cases h:u % 2=0
 ·rw[if_pos h,if_pos (by omega)];omega
 ·rw[if_neg h,if_neg (by omega)];omega
theorem unfold_ok {u:Nat} (h:u<2^64):okI (unfoldN u):=by
 have h64:(2:Nat)^64=18446744073709551616:=by decide
 rw[h64] at h
 unfold okI unfoldN
 by_cases h2:u % 2=0
 ·rw[if_pos h2];omega
 ·rw[if_neg h2];omega
def Reads {α:Type} (b:List UInt8) (g:Drd→α×Drd) (enc:α→List UInt8) (ok:α→Prop):Prop:=
 ∀r,(g r).2.bad=none→r.bad=none∧ok (g r).1∧b.drop r.at_=enc (g r).1++b.drop (g r).2.at_
theorem numD_reads (b:List UInt8):Reads b (numD b) numB okI:=by
 intro r hb
 unfold numD at hb⊢
 cases hr:r.bad with
 |some i=>simp only[hr] at hb;exact absurd hb (by simp)
 |none=>
  simp only[hr] at hb⊢
  by_cases h1:(numLoop b r.at_ 11 0 0 r).2.bad=none
  ·simp only[if_pos h1]
   obtain⟨m,e1,_,e3,e4⟩:=numLoop_ok b r.at_ 11 0 0 r rfl (by decide) hr h1
   rw[Nat.mul_zero,Nat.pow_zero,Nat.mul_one,Nat.zero_add] at e1
   rw[e1]
   refine⟨trivial,unfold_ok e3, ?_⟩
   rw[numB,fold_unfold]
   exact e4
  ·simp only[if_neg h1] at hb;exact absurd hb h1
theorem manyD_reads (b:List UInt8) (r:Drd) (hb:(manyD b r).2.bad=none):r.bad=none∧okI (manyD b r).1∧0≤(manyD b r).1∧(manyD b r).1≤(b.length:Int)-(manyD b r).2.at_∧b.drop r.at_=numB (manyD b r).1++b.drop (manyD b r).2.at_:=by
 unfold manyD at hb⊢
 simp only at hb⊢
 by_cases h:(numD b r).2.bad=none∧((numD b r).1<0∨((b.length:Int)-(numD b r).2.at_)<(numD b r).1)
 ·rw[if_pos h] at hb;exact absurd hb (fail_bad _ _)
 ·rw[if_neg h] at hb⊢
  obtain⟨h1,h2,h3⟩:=numD_reads b r hb
  refine⟨h1,h2, ?_, ?_,h3⟩
  ·exact Int.not_lt.1 fun h'=>h ⟨hb,.inl h'⟩
  ·exact Int.not_lt.1 fun h'=>h ⟨hb,.inr h'⟩
theorem textD_reads (b:List UInt8):Reads b (textD b) textB (fun s=>s.length≤b.length):=by
 intro r hb
 unfold textD at hb⊢
 simp only at hb⊢
 by_cases h:(manyD b r).2.bad=none
 ·rw[if_pos h] at hb⊢
  obtain⟨h1,h2,h3,h4,h5⟩:=manyD_reads b r h
  have hl:((b.drop (manyD b r).2.at_).take (manyD b r).1.toNat).length=(manyD b r).1.toNat:=by rw[List.length_take,List.length_drop];omega
  refine⟨h1,by rw[hl];omega, ?_⟩
  rw[textB,hl,show(((manyD b r).1.toNat:Nat):Int)=(manyD b r).1 by omega,h5,List.append_assoc]
  congr 1
  rw[←List.drop_drop,List.take_append_drop]
 ·rw[if_neg h] at hb;exact absurd hb h
theorem rowD_reads {α:Type} {b:List UInt8} {g:Drd→α×Drd} {enc:α→List UInt8} {ok:α→Prop} (hg:Reads b g enc ok):∀(n:Nat) (r:Drd),(rowD g n r).2.bad=none→
  r.bad=none∧(rowD g n r).1.length=n∧(∀x∈(rowD g n r).1,ok x)∧b.drop r.at_=(rowD g n r).1.flatMap enc++b.drop (rowD g n r).2.at_
 |0,r,hb=>⟨hb,rfl,fun x hx=>(by cases hx),rfl⟩
 |n+1,r,hb=>by
  rw[rowD] at hb⊢
  by_cases h:r.bad=none
  ·rw[if_pos h] at hb⊢
   simp only at hb⊢
   obtain⟨h1,h2,h3,h4⟩:=rowD_reads hg n _ hb
   obtain⟨e1,e2,e3⟩:=hg r h1
   refine⟨e1,by rw[List.length_cons,h2], ?_, ?_⟩
   ·intro x hx
    rcases List.mem_cons.1 hx with hx|hx
    ·rw[hx];exact e2
    ·exact h3 x hx
   ·rw[e3,h4,List.flatMap_cons,List.append_assoc]
  ·rw[if_neg h] at hb;exact absurd hb h
theorem instD_reads (b:List UInt8):Reads b (instD b) instB fun x=>okI x.op∧okI x.a∧okI x.b∧okI x.at_∧x.text.data.toList.length≤b.length:=by
 intro r hb
 unfold instD at hb⊢
 simp only at hb⊢
 obtain⟨e1,e2,e3⟩:=numD_reads b _ hb
 obtain⟨f1,f2,f3⟩:=textD_reads b _ e1
 obtain⟨g1,g2,g3⟩:=numD_reads b _ f1
 obtain⟨i1,i2,i3⟩:=numD_reads b _ g1
 obtain⟨j1,j2,j3⟩:=numD_reads b _ i1
 refine⟨j1,⟨j2,i2,g2,e2,f2⟩, ?_⟩
 rw[j3,i3,g3,f3,e3]
 simp only[instB,List.append_assoc]
def CfLike (b:List UInt8) (f:Cf):Prop:=f.name.data.toList.length≤b.length∧okI f.params∧okI f.slots∧okI f.around∧f.taken.length≤b.length∧f.code.length≤b.length∧(∀t∈f.taken,okI t)∧
 ∀x∈f.code,okI x.op∧okI x.a∧okI x.b∧okI x.at_∧x.text.data.toList.length≤b.length
theorem funcD_reads (b:List UInt8):Reads b (funcD b) funcB (CfLike b):=by
 intro r hb
 unfold funcD at hb⊢
 simp only at hb⊢
 obtain⟨a1,a2,a3,a4⟩:=rowD_reads (instD_reads b) _ _ hb
 obtain⟨c1,c2,c3,c4,c5⟩:=manyD_reads b _ a1
 obtain⟨d1,d2,d3⟩:=numD_reads b _ c1
 obtain⟨e1,e2,e3,e4⟩:=rowD_reads (numD_reads b) _ _ d1
 obtain⟨f1,f2,f3,f4,f5⟩:=manyD_reads b _ e1
 obtain⟨g1,g2,g3⟩:=numD_reads b _ f1
 obtain⟨i1,i2,i3⟩:=numD_reads b _ g1
 obtain⟨j1,j2,j3⟩:=textD_reads b _ i1
 refine⟨j1,⟨j2,i2,g2,d2,by simp only;rw[e2];omega,by simp only;rw[a2];omega,e3,a3⟩, ?_⟩
 rw[j3,i3,g3,f5,e4,d3,c5,a4]
 simp only[funcB,List.append_assoc,e2,a2]
 rw[Int.toNat_of_nonneg f3,Int.toNat_of_nonneg c3]
theorem magic_ok:∀(m b:List UInt8) (i:Nat),magicAt m b i=none→b=m++b.drop m.length
 | [],b,_,_=>rfl
 |_::_,[],_,h=>by cases h
 |m::r,c::b,i,h=>by
  rw[magicAt] at h
  by_cases hc:c=m
  ·rw[if_pos hc] at h
   rw[List.length_cons,List.drop_succ_cons,List.cons_append,←magic_ok r b (i+1) h,hc]
  ·rw[if_neg hc] at h;cases h
theorem decode_back {b:List UInt8} {p:Cp} (h:decodeD b=(p,none)):encodeB p=b∧p.funcs.length≤b.length∧p.globals.length≤b.length∧(∀f∈p.funcs,CfLike b f)∧∀s∈p.globals,s.data.toList.length≤b.length:=by
 unfold decodeD at h
 cases hm:magicAt [71,67,48,49] b 0 with
 |some i=>simp only[hm] at h;cases h
 |none=>
  simp only[hm] at h
  have hb0:=magic_ok _ _ _ hm
  simp only[List.length_cons,List.length_nil] at hb0
  split at h
  ·cases h
  ·rename_i hne
   injection h with h1 h2
   obtain⟨a1,a2,a3,a4⟩:=rowD_reads (funcD_reads b) _ _ h2
   obtain⟨c1,c2,c3,c4,c5⟩:=manyD_reads b _ a1
   obtain⟨e1,e2,e3,e4⟩:=rowD_reads (textD_reads b) _ _ c1
   obtain⟨f1,f2,f3,f4,f5⟩:=manyD_reads b _ e1
   have hend:¬(rowD (funcD b) (manyD b (rowD (textD b) (manyD b ⟨4,none⟩).1.toNat (manyD b ⟨4,none⟩).2).2).1.toNat (manyD b (rowD (textD b) (manyD b ⟨4,none⟩).1.toNat (manyD b ⟨4,none⟩).2).2).2).2.at_<b.length:=fun hlt=>hne ⟨h2,hlt⟩
   rw[←h1]
   refine⟨?_,by simp only;rw[a2];omega,by simp only;rw[List.length_map,e2];omega,a3, ?_⟩
   ·refine Eq.trans ?_ hb0.symm
    unfold encodeB
    refine congrArg ([71,67,48,49]++·) ?_
    simp only[List.length_map,e2,a2,List.flatMap_map]
    rw[Int.toNat_of_nonneg f3,Int.toNat_of_nonneg c3,show b.drop (0+1+1+1+1)=b.drop 4 from rfl,f5,e4,c5,a4,List.drop_of_length_le (by omega),List.append_nil]
   ·intro s hs
    obtain⟨x,hx,rfl⟩:=List.mem_map.1 hs
    exact e3 x hx
theorem drop_head {b s:List UInt8} {i:Nat} {c:UInt8} (h:b.drop i=c::s):b[i]? =some c∧b.drop (i+1)=s:=by
 have h1:b[i]? =some c:=by
  have:=congrArg (fun l=>l[0]?) h
  simpa using this
 refine⟨h1, ?_⟩
 rw[drop_at h1] at h
 injection h
theorem drop_more {b s t:List UInt8} {i:Nat} (h:b.drop i=s++t):b.drop (i+s.length)=t:=by
 rw[←List.drop_drop,h];simp
theorem u8_nat {n:Nat} (h:n<256):(UInt8.ofNat n).toNat=n:=by
 rw[UInt8.toNat_ofNat'];exact Nat.mod_eq_of_lt h
theorem numLoop_back (b:List UInt8) (frm:Nat):∀(f k acc m:Nat) (r:Drd) (post:List UInt8),k+f=11→k≤9→r.bad=none→m<2^(64-7*k)→(0<k→0<m)→b.drop r.at_=numU (10-k) m++post→
  numLoop b frm f k acc r=(acc+m*2^(7*k),⟨r.at_+(numU (10-k) m).length,none⟩)
 |0,k,_,_,_,_,h,hk,_,_,_,_=>by omega
 |f+1,k,acc,m,r,post,h,hk,hr,hm,h0,hd=>by
  by_cases h127:127<m
  ·have hk9:k<9:=by
    rcases Nat.lt_or_ge k 9 with h9|h9
    ·exact h9
    ·exfalso
     have:k=9:=by omega
     subst this
     have:m<2:=hm
     omega
   have h10:10-k=(10-(k+1))+1:=by omega
   rw[h10,numU,if_pos h127,List.cons_append] at hd
   obtain⟨hc,hd'⟩:=drop_head hd
   have hcn:(UInt8.ofNat (m % 128+128)).toNat=m % 128+128:=u8_nat (by omega)
   rw[numLoop,hc]
   simp only[hcn]
   rw[if_neg (by omega),if_neg (by omega)]
   have hpow:(2:Nat)^(64-7*k)=128*2^(64-7*(k+1)):=by
    rw[show 64-7*k=7+(64-7*(k+1)) by omega,Nat.pow_add]
   rw[numLoop_back b frm f (k+1) _ (m/128) {r with at_:=r.at_+1} post (by omega) (by omega) hr (by rw[hpow] at hm;omega) (fun _=>by omega) hd']
   rw[h10,numU,if_pos h127,List.length_cons]
   refine Prod.ext ?_ ?_
   ·show acc+(m % 128+128) % 128*2^(7*k)+m/128*2^(7*(k+1))=acc+m*2^(7*k)
    rw[show 7*(k+1)=7*k+7 by omega,Nat.pow_add,show(2:Nat)^7=128 by decide,show(m % 128+128) % 128=m % 128 by omega,Nat.add_assoc,Nat.mul_comm (2^(7*k)) 128,←Nat.mul_assoc,←Nat.add_mul]
    congr 2
    omega
   ·show(⟨r.at_+1+(numU (10-(k+1)) (m/128)).length,none⟩:Drd)=_
    rw[Nat.add_assoc,Nat.add_comm 1]
  ·rw[numU_small (by omega),List.cons_append,List.nil_append] at hd
   obtain⟨hc,hd'⟩:=drop_head hd
   have hcn:(UInt8.ofNat m).toNat=m:=u8_nat (by omega)
   rw[numLoop,hc]
   simp only[hcn]
   have h9:¬((k=9∧1<m)∨(0<k∧m=0)):=by
    rintro(⟨rfl,h1⟩|⟨h1,h2⟩)
    ·have:m<2:=hm
     omega
    ·have:=h0 h1;omega
   rw[if_neg h9,if_pos (by omega),numU_small (by omega)]
   refine Prod.ext ?_ ?_
   ·show acc+m % 128*2^(7*k)=_
    rw[show m % 128=m by omega]
   ·show(⟨r.at_+1,r.bad⟩:Drd)=_
    rw[hr];rfl
theorem unfold_fold {n:Int}:unfoldN (foldN n)=n:=by
 unfold foldN unfoldN
 by_cases h:0≤n
 ·rw[if_pos h,if_pos (by omega)];omega
 ·rw[if_neg h,if_neg (by omega)];omega
theorem fold_lt {n:Int} (h:okI n):foldN n<2^64:=by
 have h64:(2:Nat)^64=18446744073709551616:=by decide
 obtain⟨h1,h2⟩:=h
 rw[h64]
 unfold foldN
 by_cases h:0≤n
 ·rw[if_pos h];omega
 ·rw[if_neg h];omega
def Writes {α:Type} (b:List UInt8) (g:Drd→α×Drd) (enc:α→List UInt8) (x:α):Prop:=
 ∀(r:Drd) (post:List UInt8),r.bad=none→b.drop r.at_=enc x++post→g r=(x,⟨r.at_+(enc x).length,none⟩)
theorem numD_writes (b:List UInt8) {n:Int} (hn:okI n):Writes b (numD b) numB n:=by
 intro r post hr hd
 unfold numD
 rw[hr]
 simp only
 rw[numLoop_back b r.at_ 11 0 0 (foldN n) r post rfl (by decide) hr (fold_lt hn) (fun h=>absurd h (Nat.lt_irrefl 0)) hd]
 simp only[if_true,Nat.mul_zero,Nat.pow_zero,Nat.mul_one,Nat.zero_add,unfold_fold]
 rfl
theorem numB_pos (n:Int):0<(numB n).length:=by
 unfold numB
 rw[numU]
 split
 ·simp
 ·simp
theorem manyD_writes (b:List UInt8) {n:Nat} (r:Drd) (post:List UInt8) (hn:okI n) (hl:n≤post.length) (hr:r.bad=none) (hd:b.drop r.at_=numB n++post):manyD b r=((n:Int),⟨r.at_+(numB n).length,none⟩):=by
 unfold manyD
 rw[numD_writes b hn r post hr hd]
 have hp:=drop_more hd
 have hlen:b.length-r.at_=(numB n).length+post.length:=by rw[←List.length_drop,hd,List.length_append]
 have hpos:=numB_pos n
 simp only
 rw[if_neg]
 rintro⟨_,h|h⟩
 ·omega
 ·omega
theorem textD_writes (b:List UInt8) {s:List UInt8} (hs:okI s.length):Writes b (textD b) textB s:=by
 intro r post hr hd
 rw[textB,List.append_assoc] at hd
 unfold textD
 rw[manyD_writes b r (s++post) hs (by simp) hr hd]
 have hp:=drop_more hd
 simp only[if_true,Int.toNat_natCast]
 rw[hp,List.take_left,textB,List.length_append,Nat.add_assoc]
theorem rowD_writes {α:Type} {b:List UInt8} {g:Drd→α×Drd} {enc:α→List UInt8}:∀(l:List α),(∀x∈l,Writes b g enc x)→∀(r:Drd) (post:List UInt8),r.bad=none→b.drop r.at_=l.flatMap enc++post→
  rowD g l.length r=(l,⟨r.at_+(l.flatMap enc).length,none⟩)
 | [],_,r,post,hr,_=>by
  show([],r)=([],(⟨r.at_+0,none⟩:Drd))
  cases r;simp only at hr;subst hr;rfl
 |x::l,h,r,post,hr,hd=>by
  rw[List.flatMap_cons,List.append_assoc] at hd
  rw[List.length_cons,rowD,if_pos hr,h x (List.mem_cons_self ..) r _ hr hd]
  have hp:=drop_more hd
  simp only
  rw[rowD_writes l (fun y hy=>h y (List.mem_cons_of_mem _ hy)) _ post rfl hp,List.flatMap_cons,List.length_append,Nat.add_assoc]
theorem instD_writes (b:List UInt8) {x:Ci} (h1:okI x.op) (h2:okI x.a) (h3:okI x.b) (h4:okI x.at_) (h5:okI x.text.data.toList.length):Writes b (instD b) instB x:=by
 intro r post hr hd
 simp only[instB,List.append_assoc] at hd
 have d1:=drop_more hd
 have d2:=drop_more d1
 have d3:=drop_more d2
 have d4:=drop_more d3
 unfold instD
 simp only[numD_writes b h1 r _ hr hd,numD_writes b h2 ⟨_,none⟩ _ rfl d1,numD_writes b h3 ⟨_,none⟩ _ rfl d2,textD_writes b h5 ⟨_,none⟩ _ rfl d3,numD_writes b h4 ⟨_,none⟩ _ rfl d4]
 refine Prod.ext rfl ?_
 simp only[instB,List.length_append,Nat.add_assoc]
def CfFits (f:Cf):Prop:=okI f.name.data.toList.length∧okI f.params∧okI f.slots∧okI f.around∧okI f.taken.length∧okI f.code.length∧(∀t∈f.taken,okI t)∧
 ∀x∈f.code,okI x.op∧okI x.a∧okI x.b∧okI x.at_∧okI x.text.data.toList.length
theorem flat_ge {α:Type} {f:α→List UInt8} (hf:∀x,0<(f x).length):∀l:List α,l.length≤(l.flatMap f).length
 | []=>Nat.le_refl _
 |x::l=>by
  have:=flat_ge hf l
  have:=hf x
  rw[List.flatMap_cons,List.length_append,List.length_cons]
  omega
theorem textB_pos (s:List UInt8):0<(textB s).length:=by
 rw[textB,List.length_append];have:=numB_pos s.length;omega
theorem instB_pos (x:Ci):0<(instB x).length:=by
 rw[instB,List.length_append];have:=numB_pos x.op;omega
theorem funcB_pos (x:Cf):0<(funcB x).length:=by
 rw[funcB,List.length_append];have:=textB_pos x.name.data.toList;omega
theorem funcD_writes (b:List UInt8) {f:Cf} (h:CfFits f):Writes b (funcD b) funcB f:=by
 obtain⟨h1,h2,h3,h4,h5,h6,h7,h8⟩:=h
 intro r post hr hd
 simp only[funcB,List.append_assoc] at hd
 have d1:=drop_more hd
 have d2:=drop_more d1
 have d3:=drop_more d2
 have d4:=drop_more d3
 have d5:=drop_more d4
 have d6:=drop_more d5
 have d7:=drop_more d6
 have l1:f.taken.length≤(f.taken.flatMap numB++(numB f.around++(numB f.code.length++(f.code.flatMap instB++post)))).length:=by
  have:=flat_ge numB_pos f.taken
  rw[List.length_append];omega
 have l2:f.code.length≤(f.code.flatMap instB++post).length:=by
  have:=flat_ge instB_pos f.code
  rw[List.length_append];omega
 have w1:=textD_writes b h1 r _ hr hd
 have w2:=numD_writes b h2 ⟨_,none⟩ _ rfl d1
 have w3:=numD_writes b h3 ⟨_,none⟩ _ rfl d2
 have w4:=manyD_writes b ⟨_,none⟩ _ h5 l1 rfl d3
 have w5:=rowD_writes f.taken (fun t ht=>numD_writes b (h7 t ht)) ⟨_,none⟩ _ rfl d4
 have w6:=numD_writes b h4 ⟨_,none⟩ _ rfl d5
 have w7:=manyD_writes b ⟨_,none⟩ _ h6 l2 rfl d6
 have w8:=rowD_writes f.code (fun x hx=>instD_writes b (h8 x hx).1 (h8 x hx).2.1 (h8 x hx).2.2.1 (h8 x hx).2.2.2.1 (h8 x hx).2.2.2.2) ⟨_,none⟩ _ rfl d7
 unfold funcD
 simp only[w1,w2,w3,w4,Int.toNat_natCast,w5,w6,w7,w8]
 refine Prod.ext rfl ?_
 simp only[funcB,List.length_append,Nat.add_assoc]
theorem encode_back {p:Cp} (hf:okI p.funcs.length) (hg:okI p.globals.length) (h1:∀f∈p.funcs,CfFits f) (h2:∀s∈p.globals,okI s.data.toList.length):decodeD (encodeB p)=(p,none):=by
 obtain⟨b,hb⟩:∃b,encodeB p=b:=⟨_,rfl⟩
 rw[hb]
 have d0:b.drop 4=numB p.globals.length++(p.globals.flatMap (fun s=>textB s.data.toList)++(numB p.funcs.length++p.funcs.flatMap funcB)):=by rw[←hb];rfl
 have hm:magicAt [71,67,48,49] b 0=none:=by rw[←hb];rfl
 have d1:=drop_more d0
 have hfm:p.globals.flatMap (fun s=>textB s.data.toList)=(p.globals.map fun s=>s.data.toList).flatMap textB:=by rw[List.flatMap_map]
 rw[hfm] at d0 d1
 have d2:=drop_more d1
 have d3:=drop_more d2
 have l1:p.globals.length≤((p.globals.map fun s=>s.data.toList).flatMap textB++(numB p.funcs.length++p.funcs.flatMap funcB)).length:=by
  have:=flat_ge textB_pos (p.globals.map fun s=>s.data.toList)
  rw[List.length_map] at this
  rw[List.length_append];omega
 have l2:=flat_ge funcB_pos p.funcs
 have w1:=manyD_writes b ⟨4,none⟩ _ hg l1 rfl d0
 have w2:=rowD_writes (p.globals.map fun s=>s.data.toList) (fun s hs=>by
  obtain⟨x,hx,rfl⟩:=List.mem_map.1 hs
  exact textD_writes b (h2 x hx)) ⟨_,none⟩ _ rfl d1
 rw[List.length_map] at w2
 have w3:=manyD_writes b ⟨_,none⟩ _ hf l2 rfl d2
 have d3':b.drop (4+(numB p.globals.length).length+((p.globals.map fun s=>s.data.toList).flatMap textB).length+(numB p.funcs.length).length)=p.funcs.flatMap funcB++ []:=by rw[List.append_nil];exact d3
 have w4:=rowD_writes p.funcs (fun f hf=>funcD_writes b (h1 f hf)) ⟨_,none⟩ _ rfl d3'
 unfold decodeD
 simp only[hm,w1,Int.toNat_natCast,w2,w3,w4]
 have hlen:b.length=4+(numB p.globals.length).length+((p.globals.map fun s=>s.data.toList).flatMap textB).length+(numB p.funcs.length).length+(p.funcs.flatMap funcB).length:=by
  rw[←hb]
  simp only[encodeB,hfm,List.length_append,List.length_cons,List.length_nil]
  omega
 rw[if_neg (by rintro⟨_,h⟩;omega)]
 refine Prod.ext ?_ rfl
 have hid:(p.globals.map fun s=>s.data.toList).map (fun s=>(⟨⟨s⟩⟩:ByteArray))=p.globals:=by
  rw[List.map_map]
  exact(List.map_congr_left fun x _=>rfl).trans (List.map_id _)
 show(⟨p.funcs,_⟩:Cp)=p
 rw[hid]
def NumM (slots tops:Nat) (x:Ci):Prop:=match (formOf x.op).a with
 |0=>x.a=0
 |1=>0≤x.a∧x.a<2
 |2=>0≤x.a∧x.a<3
 |3=>0≤x.a∧x.a<slots
 |4=>0≤x.a∧x.a<tops
 |7=>0≤x.a∧x.a<20001
 |8=>0≤x.a∧x.a<31
 |10=>True
 |_=>False
structure FineM (slots tops:Nat) (code:List Ci) (k:Nat) (x:Ci):Prop where
 op:1≤x.op∧x.op≤53∧x.op≠26
 at_:0≤x.at_∧x.at_≤60000
 b:x.b=0
 says:saysB x=true
 num:NumM slots tops x
 goes:goesB x.op=true→0≤x.a∧x.a≤code.length∧((k:Int)<x.a∨∃y,code[x.a.toNat]? =some y∧y.op=2)
theorem FineM.more {slots tops:Nat} {code:List Ci} {k:Nat} {x:Ci} (h:FineM slots tops code k x) (pc:List Ci):FineM slots tops (code++pc) k x:=by
 refine⟨h.op,h.at_,h.b,h.says,h.num,fun g=> ?_⟩
 obtain⟨h1,h2,h3⟩:=h.goes g
 refine⟨h1,by rw[List.length_append];omega, ?_⟩
 rcases h3 with h3|⟨y,h3,h4⟩
 ·exact .inl h3
 ·refine .inr ⟨y, ?_,h4⟩
  rw[List.getElem?_append_left (List.getElem?_eq_some_iff.1 h3).1]
  exact h3
structure MkOk (m:Mk) (B L:Nat):Prop where
 gd:∃ss,Gd m.slots m.tops m.code ss (vs m.high)
 fine:∀(k:Nat) (x:Ci),m.code[k]? =some x→FineM m.slots m.tops m.code k x
 high:m.high≤B
 slots:0<m.slots
 len:m.code.length≤L
theorem at_ok (n:Nat):(0:Int)≤((n*7 % 60001:Nat):Int)∧((n*7 % 60001:Nat):Int)≤60000:=by omega
theorem next_lt (m:Mk) {n:Nat} (h:0<n):(m.next n).1<n:=by
 unfold Mk.next
 simp only
 split
 ·rename_i c _
  unfold pickN
  have h1:(0:Int)≤if c<0 then-(c+1) else c:=by split<;>omega
  generalize (if c<0 then-(c+1) else c)=d at h1
  have h2:=Int.emod_nonneg d (show(n:Int)≠0 by omega)
  have h3:=Int.emod_lt_of_pos d (show(0:Int)<n by omega)
  omega
 ·exact h
theorem MkOk.next {m:Mk} {B L:Nat} (h:MkOk m B L) (n:Nat):MkOk (m.next n).2 B L:=⟨h.gd,h.fine,h.high,h.slots,h.len⟩
theorem MkOk.add {m:Mk} {B L:Nat} (h:MkOk m B L) (hB:B+2≤30000) (op a:Int) (text:List UInt8) (takes lays c d e:Nat)
  (hop:1≤op∧op≤53∧op≠26) (hc:∀t p,countedP ⟨op,a,0,t,p⟩=(118,(c:Int))) (ht:(formOf op).takes=vs d) (hl:(formOf op).lays=vs e) (hgo:goesB op=false)
  (htk:takes=c+d) (hly:lays=e) (hle:takes≤m.high) (he:e≤2) (hs:∀p,saysB ⟨op,a,0,⟨⟨text⟩⟩,p⟩=true) (hn:∀t p,NumM m.slots m.tops ⟨op,a,0,t,p⟩):
  MkOk (m.add op a text takes lays) (B-takes+lays) (L+1)∧(m.add op a text takes lays).high=m.high-takes+lays:=by
 obtain⟨ss,hg⟩:=h.gd
 have hh:=h.high
 refine⟨⟨⟨ss++ [vs m.high], ?_⟩,fun k x hx=> ?_, ?_,h.slots, ?_⟩,rfl⟩
 ·have:=hg.one ⟨op,a,0,⟨⟨text⟩⟩,((m.code.length*7 % 60001:Nat):Int)⟩ (hc _ _) ht hl hgo (by omega) (by omega)
  rw[htk,hly]
  exact this
 ·have hx':(m.code++ [⟨op,a,0,⟨⟨text⟩⟩,((m.code.length*7 % 60001:Nat):Int)⟩])[k]? =some x:=hx
  rcases Nat.lt_or_ge k m.code.length with hk|hk
  ·rw[List.getElem?_append_left hk] at hx'
   exact(h.fine k x hx').more _
  ·rw[List.getElem?_append_right hk] at hx'
   obtain⟨j,hj⟩:∃j,k-m.code.length=j:=⟨_,rfl⟩
   rw[hj] at hx'
   cases j with
   |succ j=>simp at hx'
   |zero=>
    simp only[List.getElem?_cons_zero,Option.some.injEq] at hx'
    subst hx'
    exact⟨hop,at_ok _,rfl,hs _,hn _ _,fun g=>by rw[hgo] at g;cases g⟩
 ·show m.high-takes+lays≤_
  omega
 ·show(m.code++ [_]).length≤_
  rw[List.length_append]
  have:=h.len
  simp only[List.length_cons,List.length_nil]
  omega
theorem ints_say:∀i:Fin 4,(intOfL (pushInts.getD i.val [])).isSome=true:=by
 have h:∀n:Int,okI n→∀s,Lib.itoa n=s→(intOfL s).isSome=true:=fun n hn s hs=>by rw[←hs,int_back hn];rfl
 intro i
 match i with
 |0=>exact h 0 ⟨by decide,by decide⟩ _ (by simp[Lib.itoa,Lib.decDigits];rfl)
 |1=>exact h (-5) ⟨by decide,by decide⟩ _ (by simp[Lib.itoa,Lib.decDigits];rfl)
 |2=>exact h 9223372036854775807 ⟨by decide,by decide⟩ _ (by simp[Lib.itoa,Lib.decDigits];rfl)
 |3=>exact h (-9223372036854775808) ⟨by decide,by decide⟩ _ (by simp[Lib.itoa,Lib.decDigits];rfl)
theorem floats_say:∀i:Fin 3,floatBitsB (pushFloats.getD i.val [])=true:=by decide
theorem texts_say:∀i:Fin 3,(pushTexts.getD i.val []).length≤65536:=by decide
theorem nils_say:∀i:Fin 4,typedB (pushNils.getD i.val []) false false=true:=of_decide_eq_true (by kernel_rfl)
theorem binary_say:∀i:Fin 4,amongB binaryW (oneBinary.getD i.val [])=true:=by decide
theorem unary_say:∀i:Fin 3,amongB unaryW (oneUnary.getD i.val [])=true:=by decide
theorem built_say:∀i:Fin 3,amongB builtW (oneBuilt.getD i.val [])=true:=by decide
theorem struct_say:∀i:Fin 3,namesB (oneStruct.getD i.val []) ((i.val:Int)+1)=true:=of_decide_eq_true (by kernel_rfl)
theorem tm_say:namesB [84,32,109] 2=true:=by kernel_rfl
theorem f_say:nameL [102]=true:=by kernel_rfl
theorem num_lt {n k:Nat} (h:n<k):(0:Int)≤(n:Int)∧(n:Int)<(k:Int):=by omega
theorem num_lt2 {n:Nat} (h:n<2):(0:Int)≤(n:Int)∧(n:Int)<2:=by omega
theorem MkOk.push {m:Mk} {B L:Nat} (h:MkOk m B L) (hB:B+2≤30000):MkOk m.push (B+1) (L+1)∧m.push.high=m.high+1:=by
 have hx:=h.next 9
 have hlt:=next_lt m (n:=9) (by decide)
 obtain⟨x,hxd⟩:∃x,m.next 9=x:=⟨_,rfl⟩
 have hhigh:x.2.high=m.high:=by rw[←hxd];rfl
 unfold Mk.push
 simp only[hxd]
 rw[hxd] at hx hlt
 have one:∀ {m':Mk} (_:MkOk m' B L) (_:m'.high=m.high) (op a:Int) (text:List UInt8),(1≤op∧op≤53∧op≠26)→(∀t p,countedP ⟨op,a,0,t,p⟩=(118,0))→(formOf op).takes=[]→(formOf op).lays=[118]→goesB op=false→
   (∀p,saysB ⟨op,a,0,⟨⟨text⟩⟩,p⟩=true)→(∀t p,NumM m'.slots m'.tops ⟨op,a,0,t,p⟩)→MkOk (m'.add op a text 0 1) (B+1) (L+1)∧(m'.add op a text 0 1).high=m.high+1:=by
  intro m' hm he op a text h1 h2 h3 h4 h5 h6 h7
  obtain⟨e1,e2⟩:=hm.add hB op a text 0 1 0 0 1 h1 h2 h3 h4 h5 rfl rfl (Nat.zero_le _) (by decide) h6 h7
  exact⟨e1,by rw[e2,he];omega⟩
 obtain⟨w,mx⟩:=x
 simp only at hx hlt hhigh⊢
 match w,hlt with
 |0,_=>
  have hy:=next_lt mx (n:=4) (by decide)
  exact one (hx.next 4) hhigh 3 0 _ (by decide) (fun _ _=>rfl) rfl rfl rfl (fun p=>ints_say ⟨_,hy⟩) (fun _ _=>rfl)
 |1,_=>
  have hy:=next_lt mx (n:=3) (by decide)
  exact one (hx.next 3) hhigh 4 0 _ (by decide) (fun _ _=>rfl) rfl rfl rfl (fun p=>floats_say ⟨_,hy⟩) (fun _ _=>rfl)
 |2,_=>
  have hy:=next_lt mx (n:=3) (by decide)
  exact one (hx.next 3) hhigh 5 0 _ (by decide) (fun _ _=>rfl) rfl rfl rfl (fun p=>decide_eq_true (texts_say ⟨_,hy⟩)) (fun _ _=>rfl)
 |3,_=>
  have hy:=next_lt mx (n:=2) (by decide)
  exact one (hx.next 2) hhigh 6 _ _ (by decide) (fun _ _=>rfl) rfl rfl rfl (fun p=>rfl) (fun _ _=>num_lt2 hy)
 |4,_=>
  have hy:=next_lt mx (n:=4) (by decide)
  exact one (hx.next 4) hhigh 8 0 _ (by decide) (fun _ _=>rfl) rfl rfl rfl (fun p=>nils_say ⟨_,hy⟩) (fun _ _=>num_lt2 (n:=0) (by decide))
 |5,_=>
  have hy:=next_lt mx (n:=mx.slots) hx.slots
  exact one (hx.next mx.slots) hhigh 9 _ _ (by decide) (fun _ _=>rfl) rfl rfl rfl (fun p=>rfl) (fun _ _=>num_lt hy)
 |6,_=>
  by_cases ht:0<mx.tops
  ·simp only[if_pos ht]
   have hy:=next_lt mx (n:=mx.tops) ht
   exact one (hx.next mx.tops) hhigh 10 _ _ (by decide) (fun _ _=>rfl) rfl rfl rfl (fun p=>rfl) (fun _ _=>num_lt hy)
  ·simp only[if_neg ht]
   exact one hx hhigh 7 0 _ (by decide) (fun _ _=>rfl) rfl rfl rfl (fun p=>rfl) (fun _ _=>rfl)
 |7,_=>
  have hy:=next_lt mx (n:=2) (by decide)
  exact one (hx.next 2) hhigh 23 _ _ (by decide) (fun _ _=>rfl) rfl rfl rfl (fun p=>tm_say) (fun _ _=>num_lt2 hy)
 |w+8,_=>exact one hx hhigh 7 0 _ (by decide) (fun _ _=>rfl) rfl rfl rfl (fun p=>rfl) (fun _ _=>rfl)
theorem MkOk.weak {m:Mk} {B L B' L':Nat} (h:MkOk m B L) (hB:B≤B') (hL:L≤L'):MkOk m B' L':=⟨h.gd,h.fine,Nat.le_trans h.high hB,h.slots,Nat.le_trans h.len hL⟩
theorem MkOk.fill {m:Mk} {B L:Nat} (h:MkOk m B L) (hB:B+4≤30000) (h2:2≤B):MkOk m.fill B (L+2)∧2≤m.fill.high:=by
 have low:∀ {m:Mk} {B':Nat},MkOk m B' L→B'≤30000→MkOk m m.high L:=fun h _=>⟨h.gd,h.fine,Nat.le_refl _,h.slots,h.len⟩
 unfold Mk.fill
 split
 ·rename_i h1
  obtain⟨a1,a2⟩:=(low h (by omega)).push (by omega)
  have a3:MkOk m.push m.push.high (L+1):=⟨a1.gd,a1.fine,Nat.le_refl _,a1.slots,a1.len⟩
  obtain⟨b1,b2⟩:=a3.push (by omega)
  exact⟨⟨b1.gd,b1.fine,by rw[b2,a2];omega,b1.slots,b1.len⟩,by rw[b2,a2];omega⟩
 ·split
  ·obtain⟨a1,a2⟩:=(low h (by omega)).push (by omega)
   exact⟨⟨a1.gd,a1.fine,by rw[a2];omega,a1.slots,by have:=a1.len;omega⟩,by rw[a2];omega⟩
  ·exact⟨h.weak (Nat.le_refl _) (by omega),by omega⟩
theorem num_lt3 {n k:Nat} (h:n<k) (j:Int) (hj:(k:Int)=j):(0:Int)≤(n:Int)∧(n:Int)<j:=by omega
theorem MkOk.many {m m':Mk} {B L:Nat} (h:MkOk m B L) (pc:List Ci) (hs:m'.slots=m.slots) (ht:m'.tops=m.tops) (hc:m'.code=m.code++pc) (hh:m'.high≤m.high) (hl:pc.length≤6)
  (hg:∀ss,Gd m.slots m.tops m.code ss (vs m.high)→∃ss',Gd m.slots m.tops (m.code++pc) ss' (vs m'.high))
  (hf:∀(j:Nat) (x:Ci),pc[j]? =some x→FineM m.slots m.tops (m.code++pc) (m.code.length+j) x):MkOk m' B (L+6):=by
 obtain⟨ss,h1⟩:=h.gd
 refine⟨by rw[hs,ht,hc];exact hg ss h1,fun k x hx=> ?_,Nat.le_trans hh h.high,by rw[hs];exact h.slots,by rw[hc,List.length_append];have:=h.len;omega⟩
 rw[hs,ht,hc]
 rw[hc] at hx
 rcases Nat.lt_or_ge k m.code.length with hk|hk
 ·rw[List.getElem?_append_left hk] at hx
  exact(h.fine k x hx).more _
 ·rw[List.getElem?_append_right hk] at hx
  have:=hf _ x hx
  rw[show m.code.length+(k-m.code.length)=k by omega] at this
  exact this
theorem fine_lit (op:Int) (h:1≤op∧op≤53∧op≠26) {a:Int} {t:ByteArray} {n slots tops k:Nat} {code:List Ci} (hs:saysB ⟨op,a,0,t,((n*7 % 60001:Nat):Int)⟩=true) (hn:NumM slots tops ⟨op,a,0,t,((n*7 % 60001:Nat):Int)⟩)
  (hg:goesB op=true→0≤a∧a≤code.length∧((k:Int)<a∨∃y,code[a.toNat]? =some y∧y.op=2)):FineM slots tops code k ⟨op,a,0,t,((n*7 % 60001:Nat):Int)⟩:=⟨h,at_ok n,rfl,hs,hn,hg⟩
theorem add_code (m:Mk) (op a:Int) (text:List UInt8) (t l:Nat):(m.add op a text t l).code=m.code++ [⟨op,a,0,⟨⟨text⟩⟩,((m.code.length*7 % 60001:Nat):Int)⟩]:=rfl
theorem MkOk.pick {m:Mk} {B L:Nat} (h:MkOk m B L) (hB:B+4≤30000) (h2:2≤m.high) {n:Nat} (hn:n<m.high) (hn4:n<4) {w:Nat} (_hw:w<16):MkOk (m.pick n w) (B+1) (L+6):=by
 have hh:=h.high
 have one:∀ {m':Mk} (_:MkOk m' B L) (_:m'.high=m.high) (op a:Int) (text:List UInt8) (takes lays c d e:Nat),(1≤op∧op≤53∧op≠26)→(∀t p,countedP ⟨op,a,0,t,p⟩=(118,(c:Int)))→(formOf op).takes=vs d→(formOf op).lays=vs e→goesB op=false→
   takes=c+d→lays=e→takes≤m.high→e≤takes+1→e≤2→(∀p,saysB ⟨op,a,0,⟨⟨text⟩⟩,p⟩=true)→(∀t p,NumM m'.slots m'.tops ⟨op,a,0,t,p⟩)→MkOk (m'.add op a text takes lays) (B+1) (L+6):=by
  intro m' hm he op a text takes lays c d e h1 h2 h3 h4 h5 h6 h7 h8 h9 h10 h11 h12
  obtain⟨e1,e2⟩:=hm.add (by omega) op a text takes lays c d e h1 h2 h3 h4 h5 h6 h7 (by omega) h10 h11 h12
  exact⟨e1.gd,e1.fine,by rw[e2,he];omega,e1.slots,by have:=e1.len;omega⟩
 unfold Mk.pick
 split
 ·have hy:=next_lt m (n:=4) (by decide)
  exact one (h.next 4) rfl 19 0 _ 2 1 0 2 1 (by decide) (fun _ _=>rfl) rfl rfl rfl rfl rfl h2 (by decide) (by decide) (fun p=>binary_say ⟨_,hy⟩) (fun _ _=>rfl)
 ·have hy:=next_lt m (n:=3) (by decide)
  exact one (h.next 3) rfl 18 0 _ 1 1 0 1 1 (by decide) (fun _ _=>rfl) rfl rfl rfl rfl rfl (by omega) (by decide) (by decide) (fun p=>unary_say ⟨_,hy⟩) (fun _ _=>rfl)
 ·exact one h rfl 27 n [] n 1 n 0 1 (by decide) (fun _ _=>rfl) rfl rfl rfl rfl rfl (by omega) (by omega) (by decide) (fun p=>rfl) (fun _ _=>num_lt3 (k:=20001) (by omega) _ rfl)
 ·exact one h rfl 46 n [] (n+1) 1 n 1 1 (by decide) (fun _ _=>rfl) rfl rfl rfl rfl rfl (by omega) (by omega) (by decide) (fun p=>rfl) (fun _ _=>num_lt3 (k:=20001) (by omega) _ rfl)
 ·have hy:=next_lt m (n:=3) (by decide)
  exact one (h.next 3) rfl 47 n _ n 1 n 0 1 (by decide) (fun _ _=>rfl) rfl rfl rfl rfl rfl (by omega) (by omega) (by decide) (fun p=>built_say ⟨_,hy⟩) (fun _ _=>num_lt3 (k:=20001) (by omega) _ rfl)
 ·have hy:=next_lt m (n:=m.slots) h.slots
  exact one (h.next m.slots) rfl 12 _ [] 1 0 0 1 0 (by decide) (fun _ _=>rfl) rfl rfl rfl rfl rfl (by omega) (by decide) (by decide) (fun p=>rfl) (fun _ _=>num_lt hy)
 ·exact one h rfl 17 0 [] 1 2 0 1 2 (by decide) (fun _ _=>rfl) rfl rfl rfl rfl rfl (by omega) (by decide) (by decide) (fun p=>rfl) (fun _ _=>rfl)
 ·exact one h rfl 16 0 [] 1 0 0 1 0 (by decide) (fun _ _=>rfl) rfl rfl rfl rfl rfl (by omega) (by decide) (by decide) (fun p=>rfl) (fun _ _=>rfl)
 ·exact one h rfl 25 0 [] 2 2 0 2 2 (by decide) (fun _ _=>rfl) rfl rfl rfl rfl rfl (by omega) (by decide) (by decide) (fun p=>rfl) (fun _ _=>rfl)
 ·have hm3:min n 2<3:=by omega
  exact one h rfl 29 (min n 2:Nat) _ (min n 2) 1 (min n 2) 0 1 (by decide) (fun _ _=>rfl) rfl rfl rfl rfl rfl (by omega) (by omega) (by decide) (fun p=>struct_say ⟨_,hm3⟩) (fun _ _=>num_lt3 (k:=31) (by omega) _ rfl)
 ·exact one h rfl 33 2 [] 1 2 0 1 2 (by decide) (fun _ _=>rfl) rfl rfl rfl rfl rfl (by omega) (by decide) (by decide) (fun p=>rfl) (fun _ _=>num_lt3 (n:=2) (k:=3) (by decide) _ rfl)
 ·have hy:=next_lt m (n:=2) (by decide)
  exact one (h.next 2) rfl 22 _ _ 1 1 0 1 1 (by decide) (fun _ _=>rfl) rfl rfl rfl rfl rfl (by omega) (by decide) (by decide) (fun p=>f_say) (fun _ _=>num_lt2 hy)
 ·have hy:=next_lt m (n:=m.slots) h.slots
  refine(MkOk.many (m':=((((m.next m.slots).2.add 38 (m.next m.slots).1 [] 0 0).add 43 0 [102] 0 0).add 44 0 [] 0 0).add 45 0 [] 0 0) h
   [⟨38,((m.next m.slots).1:Nat),0,⟨⟨[]⟩⟩,((m.code.length*7 % 60001:Nat):Int)⟩,⟨43,0,0,⟨⟨[102]⟩⟩,(((m.code.length+1)*7 % 60001:Nat):Int)⟩,⟨44,0,0,⟨⟨[]⟩⟩,(((m.code.length+2)*7 % 60001:Nat):Int)⟩,⟨45,0,0,⟨⟨[]⟩⟩,(((m.code.length+3)*7 % 60001:Nat):Int)⟩]
   rfl rfl (by simp[add_code,Mk.next]) (Nat.le_refl _) (by simp) (fun ss hg=>⟨_,hg.place (by omega) _ _ _ _ _ _ _ _ _⟩) ?_).weak (by omega) (Nat.le_refl _)
  intro j x hx
  match j,hx with
  |0,hx=>cases hx;exact fine_lit 38 (by decide) (rfl) (num_lt hy) (fun g=>by cases g)
  |1,hx=>cases hx;exact fine_lit 43 (by decide) (f_say) (rfl) (fun g=>by cases g)
  |2,hx=>cases hx;exact fine_lit 44 (by decide) (rfl) (rfl) (fun g=>by cases g)
  |3,hx=>cases hx;exact fine_lit 45 (by decide) (rfl) (rfl) (fun g=>by cases g)
  |j+4,hx=>simp at hx
 ·obtain⟨hm1,hhm⟩:∃hm1,m.high=hm1+1:=⟨m.high-1,by omega⟩
  have hlen1:(m.add 51 0 [] 1 0).code.length=m.code.length+1:=by rw[add_code,List.length_append];rfl
  simp only[hlen1]
  refine(MkOk.many (m':=(((((m.add 51 0 [] 1 0).add 2 0 [] 0 0).add 52 (m.code.length+1+5:Nat) [] 0 0).add 16 0 [] 0 0).add 16 0 [] 0 0).add 34 (m.code.length+1:Nat) [] 0 0) h
   [⟨51,0,0,⟨⟨[]⟩⟩,((m.code.length*7 % 60001:Nat):Int)⟩,⟨2,0,0,⟨⟨[]⟩⟩,(((m.code.length+1)*7 % 60001:Nat):Int)⟩,⟨52,((m.code.length+6:Nat):Int),0,⟨⟨[]⟩⟩,(((m.code.length+2)*7 % 60001:Nat):Int)⟩,
    ⟨16,0,0,⟨⟨[]⟩⟩,(((m.code.length+3)*7 % 60001:Nat):Int)⟩,⟨16,0,0,⟨⟨[]⟩⟩,(((m.code.length+4)*7 % 60001:Nat):Int)⟩,⟨34,((m.code.length+1:Nat):Int),0,⟨⟨[]⟩⟩,(((m.code.length+5)*7 % 60001:Nat):Int)⟩]
   rfl rfl (by simp[add_code];omega) (by show m.high-1+0-0+0-0+0-0+0-0+0-0+0≤m.high;omega) (by simp) (fun ss hg=> ?_) ?_).weak (by omega) (Nat.le_refl _)
  ·rw[hhm] at hg
   rw[show((((((m.add 51 0 [] 1 0).add 2 0 [] 0 0).add 52 (m.code.length+1+5:Nat) [] 0 0).add 16 0 [] 0 0).add 16 0 [] 0 0).add 34 (m.code.length+1:Nat) [] 0 0).high=hm1 by show m.high-1+0-0+0-0+0-0+0-0+0-0+0=hm1;omega]
   exact⟨_,hg.loop (by omega) _ _ _ _ _ _ _ _ _ _ _ _⟩
  ·intro j x hx
   match j,hx with
   |0,hx=>cases hx;exact fine_lit 51 (by decide) (rfl) (rfl) (fun g=>by cases g)
   |1,hx=>cases hx;exact fine_lit 2 (by decide) (rfl) (rfl) (fun g=>by cases g)
   |2,hx=>
    cases hx
    refine fine_lit 52 (by decide) (rfl) (trivial) (fun _=>⟨?_, ?_,.inl ?_⟩)
    ·show(0:Int)≤((m.code.length+6:Nat):Int);omega
    ·show((m.code.length+6:Nat):Int)≤_;rw[List.length_append];simp
    ·show((m.code.length+2:Nat):Int)<((m.code.length+6:Nat):Int);omega
   |3,hx=>cases hx;exact fine_lit 16 (by decide) (rfl) (rfl) (fun g=>by cases g)
   |4,hx=>cases hx;exact fine_lit 16 (by decide) (rfl) (rfl) (fun g=>by cases g)
   |5,hx=>
    cases hx
    refine fine_lit 34 (by decide) (rfl) (trivial) (fun _=>⟨?_, ?_,.inr ⟨⟨2,0,0,⟨⟨[]⟩⟩,(((m.code.length+1)*7 % 60001:Nat):Int)⟩, ?_,rfl⟩⟩)
    ·show(0:Int)≤((m.code.length+1:Nat):Int);omega
    ·show((m.code.length+1:Nat):Int)≤_;rw[List.length_append];simp only[List.length_cons];omega
    ·show(m.code++_)[(((m.code.length+1:Nat):Int)).toNat]? =_
     rw[Int.toNat_natCast,List.getElem?_append_right (by omega),show m.code.length+1-m.code.length=1 by omega]
     rfl
   |j+6,hx=>simp at hx
 ·obtain⟨hm1,hhm⟩:∃hm1,m.high=hm1+1:=⟨m.high-1,by omega⟩
  refine(MkOk.many (m':=((m.add 35 (m.code.length+3:Nat) [] 1 0).add 7 0 [] 0 0).add 16 0 [] 0 0) h
   [⟨35,((m.code.length+3:Nat):Int),0,⟨⟨[]⟩⟩,((m.code.length*7 % 60001:Nat):Int)⟩,⟨7,0,0,⟨⟨[]⟩⟩,(((m.code.length+1)*7 % 60001:Nat):Int)⟩,⟨16,0,0,⟨⟨[]⟩⟩,(((m.code.length+2)*7 % 60001:Nat):Int)⟩]
   rfl rfl (by simp[add_code]) (by show m.high-1+0-0+0-0+0≤m.high;omega) (by simp) (fun ss hg=> ?_) ?_).weak (by omega) (Nat.le_refl _)
  ·rw[hhm] at hg
   rw[show(((m.add 35 (m.code.length+3:Nat) [] 1 0).add 7 0 [] 0 0).add 16 0 [] 0 0).high=hm1 by show m.high-1+0-0+0-0+0=hm1;omega]
   exact⟨_,hg.pass (by omega) _ _ _ _ _ _⟩
  ·intro j x hx
   match j,hx with
   |0,hx=>
    cases hx
    refine fine_lit 35 (by decide) (rfl) (trivial) (fun _=>⟨?_, ?_,.inl ?_⟩)
    ·show(0:Int)≤((m.code.length+3:Nat):Int);omega
    ·show((m.code.length+3:Nat):Int)≤_;rw[List.length_append];simp
    ·show((m.code.length+0:Nat):Int)<((m.code.length+3:Nat):Int);omega
   |1,hx=>cases hx;exact fine_lit 7 (by decide) (rfl) (rfl) (fun g=>by cases g)
   |2,hx=>cases hx;exact fine_lit 16 (by decide) (rfl) (rfl) (fun g=>by cases g)
   |j+3,hx=>simp at hx
 ·exact one h rfl 48 0 [] 1 0 0 1 0 (by decide) (fun _ _=>rfl) rfl rfl rfl rfl rfl (by omega) (by decide) (by decide) (fun p=>rfl) (fun _ _=>num_lt3 (n:=0) (k:=20001) (by decide) _ rfl)
end Go.Proofs.YtdjbkppdppdcgaaGreatDoor
