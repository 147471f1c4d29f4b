/- The programs that the laws make of raw numbers are right. A right program of code is written and read back: what List and Encode ask of it holds. The programs that the laws make of raw numbers are right: whole programs. CodeBack, the plain law: what is made is written and read back; unlike ones have unlike bytes and lines. CodeSpoilt, the plain law: one thing of a made program turned. The chapter's least program, in plain form. -/
import Derived.Test.YtagnicbknbmccaaGreatDoorMCtL
import Derived.Test.YtagnicbknbmccaaGreatDoorMLex1
import Derived.Test.YtagnicbknbmccaaGreatDoorMCdD
namespace Go.Proofs.YtagnicbknbmccaaGreatDoor
theorem MkOk.one {m:Mk} {B L:Nat} (h:MkOk m B L) (h2:2≤B) (hB:B+4≤30000):MkOk m.one (B+1) (L+8):=by
 obtain⟨h1,h3⟩:=h.fill hB h2
 have hn:=next_lt m.fill (n:=min m.fill.high 4) (by omega)
 have hw:=next_lt (m.fill.next (min m.fill.high 4)).2 (n:=16) (by decide)
 have:=((h1.next (min m.fill.high 4)).next 16).pick hB h3 (n:=(m.fill.next (min m.fill.high 4)).1) (by show _<m.fill.high;omega) (by omega) hw
 exact this
theorem MkOk.ones:∀(n:Nat) {m:Mk} {B L:Nat},MkOk m B L→2≤B→B+n+4≤30000→MkOk (Mk.ones n m) (B+n) (L+8*n)
 |0,_,_,_,h,_,_=>h
 |n+1,m,B,L,h,h2,hB=>by
  rw[Mk.ones]
  split
  ·exact(MkOk.ones n (h.one h2 (by omega)) (by omega) (by omega)).weak (by omega) (by omega)
  ·exact h.weak (by omega) (by omega)
structure BodyOk (slots tops:Nat) (code:List Ci):Prop where
 ne:code≠ []
 len:code.length≤600
 fits:∃ss:List (List UInt8),ss.length≤code.length∧ss[0]? =some []∧∀(k:Nat) (x:Ci) (s:List UInt8),code[k]? =some x→ss[k]? =some s→∃nx th,leavesP x s=some (nx,th)∧(x.op≠34→x.op≠50→ss[k+1]? =some nx)∧(goesB x.op=true→ss[x.a.toNat]? =some th)
 fine:∀(k:Nat) (x:Ci),code[k]? =some x→FineM slots tops code k x∧(goesB x.op=true→x.a<code.length)∧(k+1<code.length∨x.op=50)
theorem BodyOk.none {slots tops:Nat} {code:List Ci} (h:BodyOk slots tops code):fitsP code=none:=by
 obtain⟨ss,_,h0,hf⟩:=h.fits
 exact fits_none (S:=fun k=>ss[k]?) h0 hf
theorem body_ok (m:Mk) (hc:m.code=[]) (hh:m.high=0) (hs:0<m.slots):BodyOk m.slots m.tops m.body.code∧m.body.code.length≤598:=by
 have h0:MkOk m 2 0:=⟨⟨[],by rw[hc];rfl,by rw[hh];rfl,fun k x s hx=>by rw[hc] at hx;simp at hx⟩,fun k x hx=>by rw[hc] at hx;simp at hx,by omega,hs,by rw[hc];exact Nat.le_refl _⟩
 obtain⟨h1,_⟩:=h0.add (by decide) 1 0 [] 0 0 0 0 0 (by decide) (fun _ _=>rfl) rfl rfl rfl rfl rfl (Nat.zero_le _) (by decide) (fun _=>rfl) (fun _ _=>rfl)
 have hn:=next_lt (m.add 1 0 [] 0 0) (n:=60) (by decide)
 have h2:=(h1.next 60).ones ((m.add 1 0 [] 0 0).next 60).1 (by decide) (by omega)
 obtain⟨h3,h4⟩:=h2.push (by omega)
 have keep:∀(n:Nat) (m:Mk),(Mk.ones n m).slots=m.slots∧(Mk.ones n m).tops=m.tops:=by
  have ha:∀(m:Mk) (op a:Int) (t:List UInt8) (x y:Nat),(m.add op a t x y).slots=m.slots∧(m.add op a t x y).tops=m.tops:=fun _ _ _ _ _ _=>⟨rfl,rfl⟩
  have hp:∀m:Mk,m.push.slots=m.slots∧m.push.tops=m.tops:=by
   intro m
   unfold Mk.push
   simp only
   split
   all_goals first
    |exact⟨rfl,rfl⟩
    |(split<;>exact⟨rfl,rfl⟩)
  have hf:∀m:Mk,m.fill.slots=m.slots∧m.fill.tops=m.tops:=by
   intro m
   unfold Mk.fill
   split
   ·exact⟨(hp _).1.trans (hp _).1,(hp _).2.trans (hp _).2⟩
   ·split
    ·exact hp m
    ·exact⟨rfl,rfl⟩
  have hk:∀(m:Mk) (n w:Nat),(m.pick n w).slots=m.slots∧(m.pick n w).tops=m.tops:=by
   intro m n w
   unfold Mk.pick
   split<;>exact⟨rfl,rfl⟩
  have ho:∀m:Mk,m.one.slots=m.slots∧m.one.tops=m.tops:=fun m=>⟨(hk _ _ _).1.trans (hf m).1,(hk _ _ _).2.trans (hf m).2⟩
  intro n
  induction n with
  |zero=>intro m;exact⟨rfl,rfl⟩
  |succ n ih=>
   intro m
   rw[Mk.ones]
   split
   ·exact⟨(ih _).1.trans (ho m).1,(ih _).2.trans (ho m).2⟩
   ·exact⟨rfl,rfl⟩
 have hpush:∀m:Mk,m.push.slots=m.slots∧m.push.tops=m.tops:=by
  intro m
  unfold Mk.push
  simp only
  split
  all_goals first
   |exact⟨rfl,rfl⟩
   |(split<;>exact⟨rfl,rfl⟩)
 obtain⟨m',hm'⟩:∃m',(Mk.ones ((m.add 1 0 [] 0 0).next 60).1 ((m.add 1 0 [] 0 0).next 60).2).push=m':=⟨_,rfl⟩
 have hsl:m'.slots=m.slots:=by rw[←hm',(hpush _).1,(keep _ _).1];rfl
 have htp:m'.tops=m.tops:=by rw[←hm',(hpush _).2,(keep _ _).2];rfl
 have hbody:m.body=m'.add 50 0 [] 1 0:=by rw[←hm'];rfl
 rw[hm'] at h3 h4
 obtain⟨h5,_⟩:=h3.add (by omega) 50 0 [] 1 0 0 1 0 (by decide) (fun _ _=>rfl) rfl rfl rfl rfl rfl (by omega) (by decide) (fun _=>rfl) (fun _ _=>rfl)
 have hcode:m.body.code=m'.code++ [⟨50,0,0,⟨⟨[]⟩⟩,((m'.code.length*7 % 60001:Nat):Int)⟩]:=by rw[hbody];rfl
 have h598:m.body.code.length≤598:=by have:=h5.len;rw[hbody];omega
 refine⟨⟨by rw[hcode];simp,by omega, ?_,fun k x hx=> ?_⟩,h598⟩
 ·obtain⟨ss,hg⟩:=h5.gd
  rw[hbody]
  have hne:0<ss.length:=by rw[hg.len];show 0<(m'.code++ [_]).length;simp
  refine⟨ss,by rw[hg.len];exact Nat.le_refl _,by have:=hg.first;rwa [List.getElem?_append_left hne] at this,fun k x s hx hs=> ?_⟩
  obtain⟨nx,th,e1,e2,e3⟩:=hg.fit k x s hx hs
  have hcd:(m'.add 50 0 [] 1 0).code=m'.code++ [⟨50,0,0,⟨⟨[]⟩⟩,((m'.code.length*7 % 60001:Nat):Int)⟩]:=rfl
  have hlast:x.op≠50→k<m'.code.length:=by
   intro h50
   rcases Nat.lt_or_ge k m'.code.length with hk|hk
   ·exact hk
   ·exfalso
    rw[hcd,List.getElem?_append_right hk] at hx
    obtain⟨j,hj⟩:∃j,k-m'.code.length=j:=⟨_,rfl⟩
    rw[hj] at hx
    cases j with
    |succ j=>simp at hx
    |zero=>
     simp only[List.getElem?_cons_zero,Option.some.injEq] at hx
     subst hx
     exact h50 rfl
  have hsl2:ss.length=m'.code.length+1:=by rw[hg.len,hcd,List.length_append];rfl
  refine⟨nx,th,e1,fun a b=> ?_,fun g=> ?_⟩
  ·have:=e2 a b
   rwa [List.getElem?_append_left (by have:=hlast b;omega)] at this
  ·have h50:x.op≠50:=by intro e;rw[e] at g;cases g
   have hk:=hlast h50
   rw[hcd,List.getElem?_append_left hk] at hx
   have:=e3 g
   have ha:=((h3.fine k x hx).goes g).2.1
   have ha0:=((h3.fine k x hx).goes g).1
   rwa [List.getElem?_append_left (by omega)] at this
 ·have hf:=h5.fine k x (by rw[←hbody];exact hx)
  rw[←hbody] at hf
  have e1:(m'.add 50 0 [] 1 0).slots=m.slots:=hsl
  have e2:(m'.add 50 0 [] 1 0).tops=m.tops:=htp
  rw[hbody] at hf
  rw[e1,e2,←hbody] at hf
  refine⟨hf, ?_⟩
  rw[hcode] at hx⊢
  rcases Nat.lt_or_ge k m'.code.length with hk|hk
  ·rw[List.getElem?_append_left hk] at hx
   refine⟨fun g=> ?_,.inl (by rw[List.length_append];simp;exact hk)⟩
   have:=((h3.fine k x hx).goes g).2.1
   rw[List.length_append]
   simp only[List.length_cons,List.length_nil]
   omega
  ·rw[List.getElem?_append_right hk] at hx
   obtain⟨j,hj⟩:∃j,k-m'.code.length=j:=⟨_,rfl⟩
   rw[hj] at hx
   cases j with
   |succ j=>simp at hx
   |zero=>
    simp only[List.getElem?_cons_zero,Option.some.injEq] at hx
    subst hx
    exact⟨fun g=>(by cases g),.inr rfl⟩
theorem dec_len:∀(k u:Nat),u<10^k→0<k→(Lib.decDigits u).length≤k
 |0,_,_,h=>absurd h (Nat.lt_irrefl 0)
 |k+1,u,h,_=>by
  by_cases h10:u<10
  ·rw[Lib.decDigits,dif_pos h10];simp
  ·have hk:0<k:=by
    rcases Nat.eq_zero_or_pos k with rfl|hk
    ·simp at h;omega
    ·exact hk
   rw[Lib.decDigits,dif_neg h10,List.length_append]
   have:=dec_len k (u/10) (by rw[Nat.pow_succ] at h;omega) hk
   simp only[List.length_cons,List.length_nil]
   omega
theorem parseI_ok {s:List UInt8} {n:Int} (h:Lib.parseIntB 64 s= .ok n):okI n:=by
 have e63:(2:Nat)^(64-1)=9223372036854775808:=by decide
 unfold Lib.parseIntB at h
 split at h
 ·cases h
 ·simp only at h
  split at h
  ·cases h
  ·cases h
  ·rename_i u hu
   rw[e63] at h
   split at h
   ·cases h
   ·rename_i h1
    split at h
    ·cases h
    ·rename_i h2
     injection h with h
     subst h
     unfold okI
     split
     ·rename_i hn
      have:¬9223372036854775808<u:=fun e=>h2 ⟨hn,e⟩
      omega
     ·rename_i hn
      have:¬9223372036854775808≤u:=fun e=>h1 ⟨hn,e⟩
      omega
theorem itoa_len {n:Int} (h:okI n):(Lib.itoa n).length≤21:=by
 obtain⟨h1,h2⟩:=h
 have e:(10:Nat)^20=100000000000000000000:=by decide
 unfold Lib.itoa
 split
 ·have:=dec_len 20 n.natAbs (by rw[e];omega) (by decide)
  simp only[List.length_cons]
  omega
 ·have:=dec_len 20 n.toNat (by rw[e];omega) (by decide)
  omega
theorem intOf_len {s:List UInt8} (h:(intOfL s).isSome=true):s.length≤21:=by
 obtain⟨n,hn⟩:=Option.isSome_iff_exists.1 h
 have hb:=intOf_back hn
 unfold intOfL at hn
 split at hn
 ·rename_i m hm
  split at hn
  ·injection hn with hn
   subst hn
   rw[←hb]
   exact itoa_len (parseI_ok hm)
  ·cases hn
 ·cases hn
theorem typed_len {s:List UInt8} {a b:Bool} (h:typedB s a b=true):s.length≤40:=by
 unfold typedB at h
 simp only[Bool.or_eq_true,Bool.and_eq_true,beq_iff_eq] at h
 rcases h with h|⟨_,(h|h)|⟨_,h⟩⟩
 ·exact name_len h
 all_goals (rw[h];decide)
theorem among_len {l:List (List UInt8)} {s:List UInt8} (hl:∀x∈l,x.length≤40) (h:amongB l s=true):s.length≤40:=by
 unfold amongB at h
 simp only[Bool.and_eq_true,List.any_eq_true,beq_iff_eq] at h
 obtain⟨_,x,hx,rfl⟩:=h
 exact hl x hx
theorem flat_max {k:Nat}:∀l:List (List UInt8),(∀x∈l,x.length≤k)→(l.flatMap (32::·)).length≤l.length*(k+1)
 | [],_=>by simp
 |x::l,h=>by
  have h1:=flat_max l fun y hy=>h y (List.mem_cons_of_mem _ hy)
  have h2:=h x (List.mem_cons_self ..)
  rw[List.flatMap_cons,List.length_append,List.length_cons,List.length_cons,Nat.succ_mul]
  omega
theorem names_len {s:List UInt8} {n:Int} (h:namesB s n=true) (hn:n≤32):s.length≤2000:=by
 unfold namesB at h
 simp only[Bool.and_eq_true,List.all_eq_true,decide_eq_true_eq] at h
 obtain⟨h1,_,h3⟩:=h
 rcases hs:splitC 32 s with _|⟨w,t⟩
 ·rw[hs] at h3
  rw[splitC_cut] at hs
  split at hs<;>cases hs
 ·have e:=splitC_join hs
  rw[hs] at h1 h3
  have hw:=name_len (h1 w (List.mem_cons_self ..))
  have ht:=flat_max (k:=40) t fun x hx=>name_len (h1 x (List.mem_cons_of_mem _ hx))
  rw[List.length_cons] at h3
  rw[e,List.length_append]
  omega
theorem says_len {p:Cp} {f:Nat} {x:Ci} (hn:numberedB p f x=true) (h:saysB x=true):x.text.data.toList.length≤65536:=by
 have h40:∀l∈ [unaryW,binaryW,truthW,builtW],∀x∈l,x.length≤40:=by decide
 unfold saysB at h
 simp only at h
 split at h
 ·have:=intOf_len h;omega
 ·unfold floatBitsB at h
  simp only[Bool.and_eq_true,decide_eq_true_eq] at h
  omega
 ·simpa using h
 ·have:=typed_len h;omega
 ·have:=among_len (h40 _ (by simp)) h;omega
 ·have:=among_len (h40 _ (by simp)) h;omega
 ·have:=among_len (h40 _ (by simp)) h;omega
 ·have:=typed_len h;omega
 ·have:=name_len h;omega
 ·have:=names_len h (by decide);omega
 ·rename_i h22
  have ha:x.a≤30:=by
   have h8:(formOf x.op).a=8:=by
    have hop:1≤x.op∧x.op≤53:=by
     apply Classical.byContradiction
     intro hno
     rw[formOf,if_neg hno] at h22
     cases h22
    obtain⟨n,hn⟩:∃n:Fin 54,x.op=(n.val:Int):=⟨⟨x.op.toNat,by omega⟩,by simp only;omega⟩
    have:∀n:Fin 54,(formOf (n.val:Int)).text=22→(formOf (n.val:Int)).a=8:=by decide
    rw[hn] at h22⊢
    exact this n h22
   unfold numberedB at hn
   split at hn
   ·cases hn
   ·simp only[h8,Bool.and_eq_true,decide_eq_true_eq] at hn
    omega
  have:=names_len h (by omega)
  omega
 ·simp only[Bool.or_eq_true,Bool.and_eq_true] at h
  rcases h with⟨_,h⟩|⟨_,h⟩
  ·simp only[List.isEmpty_iff] at h;rw[h];decide
  ·have:=typed_len h;omega
 ·have:=among_len (h40 _ (by simp)) h;omega
 ·simp only[List.isEmpty_iff] at h;rw[h];decide
theorem right_parts {p:Cp} (h:rightC p=none):p.funcs.length≤20000∧p.globals.length≤20000∧globalsB [] (p.globals.map fun s=>s.data.toList)=true∧headsFrom p.funcs 0 p.funcs []=none:=by
 unfold rightC at h
 split at h
 ·cases h
 rename_i h1
 split at h
 ·cases h
 split at h
 ·cases h
 rename_i h2
 split at h
 ·cases h
 rename_i h3
 refine⟨by omega,by omega,by simpa using h2,h3⟩
theorem heads_all {fs:List Cf}:∀(l:List Cf) (i:Nat) (old:List (List UInt8)),headsFrom fs i l old=none→∀f∈l,∃j o,headedB fs j f o=true
 | [],_,_,_,f,hf=>by cases hf
 |g::l,i,old,h,f,hf=>by
  rw[headsFrom] at h
  split at h
  ·rename_i hg
   rcases List.mem_cons.1 hf with e|hf
   ·exact⟨i,old,e▸hg⟩
   ·exact heads_all l _ _ h f hf
  ·cases h
def madeNames:List (List UInt8):=[[],[109,97,105,110],[102],[84,46,109],[103]]
def madeFn (raw:List Int) (tops f at_:Nat):Cf×Nat:=
 let p:=if 0<f then Mk.next ⟨raw,at_,[],0,0,0⟩ 3 else(0,⟨raw,at_,[],0,0,0⟩)
 let l:=if 1<f then p.2.next 3 else(1,p.2)
 let s:=l.2.next 3
 let b:=Mk.body ⟨raw,s.2.at_,[],0,p.1+1+s.1,tops⟩
 if l.1=0 then(⟨⟨⟨[102,117,110,99]⟩⟩,p.1,(p.1+1+s.1:Nat),[0],(f:Int)-1,b.code⟩,b.at_)
 else(⟨⟨⟨madeNames.getD f []⟩⟩,p.1,(p.1+1+s.1:Nat),[],-1,b.code⟩,b.at_)
def madeFns (raw:List Int) (tops:Nat):Nat→Nat→Nat→List Cf
 |0,_,_=> []
 |n+1,f,at_=>(madeFn raw tops f at_).1::madeFns raw tops n (f+1) (madeFn raw tops f at_).2
def madeC (raw:List Int):Cp:=
 let t:=Mk.next ⟨raw,0,[],0,0,0⟩ 3
 let n:=t.2.next 5
 ⟨madeFns raw (min t.1 2) (1+n.1) 0 n.2.at_,[(⟨#[97]⟩:ByteArray),⟨#[98]⟩].take (min t.1 2)⟩
structure MadeOk (tops f:Nat) (x:Cf):Prop where
 slots:∃n:Nat,x.slots=n∧0<n∧n≤5∧0≤x.params∧x.params<n∧BodyOk n tops x.code
 zero:f=0→x.params=0
 head:(x.around= -1∧x.taken=[]∧x.name.data.toList=madeNames.getD f [])∨(1<f∧x.around=(f:Int)-1∧x.taken=[0]∧x.name.data.toList=[102,117,110,99])
theorem made_ok (raw:List Int) (tops f at_:Nat):MadeOk tops f (madeFn raw tops f at_).1:=by
 unfold madeFn
 simp only
 obtain⟨p,hp⟩:∃p,(if 0<f then Mk.next ⟨raw,at_,[],0,0,0⟩ 3 else(0,(⟨raw,at_,[],0,0,0⟩:Mk)))=p:=⟨_,rfl⟩
 have hp3:p.1<3:=by
  rw[←hp]
  split
  ·exact next_lt _ (by decide)
  ·show 0<3;decide
 have hp0:f=0→p.1=0:=by intro h;rw[←hp,if_neg (by omega)]
 rw[hp]
 obtain⟨l,hl⟩:∃l,(if 1<f then p.2.next 3 else(1,p.2))=l:=⟨_,rfl⟩
 have hl1:l.1=0→1<f:=by
  intro h
  rw[←hl] at h
  split at h
  ·assumption
  ·cases h
 rw[hl]
 have hs:=next_lt l.2 (n:=3) (by decide)
 obtain⟨hb,_⟩:=body_ok ⟨raw,(l.2.next 3).2.at_,[],0,p.1+1+(l.2.next 3).1,tops⟩ rfl rfl (by show 0<p.1+1+_;omega)
 by_cases h0:l.1=0
 ·rw[if_pos h0]
  exact⟨⟨_,rfl,by omega,by omega,by show(0:Int)≤((p.1:Nat):Int);omega,by show((p.1:Nat):Int)<_;omega,hb⟩,fun h=>by have:=hl1 h0;omega,.inr ⟨hl1 h0,rfl,rfl,rfl⟩⟩
 ·rw[if_neg h0]
  exact⟨⟨_,rfl,by omega,by omega,by show(0:Int)≤((p.1:Nat):Int);omega,by show((p.1:Nat):Int)<_;omega,hb⟩,fun h=>by show((p.1:Nat):Int)=0;rw[hp0 h];rfl,.inl ⟨rfl,rfl,rfl⟩⟩
theorem mades_at (raw:List Int) (tops:Nat):∀(n f at_:Nat),(madeFns raw tops n f at_).length=n∧∀(j:Nat) (x:Cf),(madeFns raw tops n f at_)[j]? =some x→MadeOk tops (f+j) x
 |0,_,_=>⟨rfl,fun j x h=>by simp[madeFns] at h⟩
 |n+1,f,at_=>by
  obtain⟨h1,h2⟩:=mades_at raw tops n (f+1) (madeFn raw tops f at_).2
  refine⟨by rw[madeFns,List.length_cons,h1],fun j x hx=> ?_⟩
  rw[madeFns] at hx
  cases j with
  |zero=>simp only[List.getElem?_cons_zero,Option.some.injEq] at hx;subst hx;exact made_ok raw tops f at_
  |succ j=>
   rw[List.getElem?_cons_succ] at hx
   have:=h2 j x hx
   rw[show f+1+j=f+(j+1) by omega] at this
   exact this
theorem names_decl:∀i:Fin 5,i.val≠0→declaredB (madeNames.getD i.val [])=true:=of_decide_eq_true (by kernel_rfl)
theorem names_apart:∀i j:Fin 5,i≠j→madeNames.getD i.val []≠madeNames.getD j.val []:=by decide
theorem mades_heads (fs:List Cf) (tops:Nat) (hfs:∀(j:Nat) (x:Cf),fs[j]? =some x→MadeOk tops j x) (h5:fs.length≤5):∀(l:List Cf) (i:Nat) (old:List (List UInt8)),(∀(j:Nat) (x:Cf),l[j]? =some x→fs[i+j]? =some x)→
  (∀s∈old,∃k,k<i∧s=madeNames.getD k [])→headsFrom fs i l old=none
 | [],_,_,_,_=>rfl
 |x::l,i,old,hl,hold=>by
  have hx:=hl 0 x rfl
  rw[Nat.add_zero] at hx
  have hi:i<5:=by have:=(List.getElem?_eq_some_iff.1 hx).1;omega
  have hm:=hfs i x hx
  obtain⟨n,hn,hn0,hn5,hp0,hpn,hb⟩:=hm.slots
  have hhead:headedB fs i x old=true:=by
   unfold headedB
   rw[if_neg (by rw[hn];omega)]
   by_cases hi0:i=0
   ·subst hi0
    rw[if_pos rfl]
    rcases hm.head with⟨h1,h2,h3⟩|⟨h1,_⟩
    ·rw[h1,h2,h3,hm.zero rfl];rfl
    ·omega
   ·rw[if_neg hi0]
    rcases hm.head with⟨h1,h2,h3⟩|⟨h1,h2,h3,h4⟩
    ·rw[if_pos h1,h2,h3,names_decl ⟨i,hi⟩ hi0]
     simp only[List.length_nil,beq_self_eq_true,Bool.true_and,Bool.not_eq_true']
     rw[Bool.eq_false_iff]
     intro hc
     rw[List.contains_iff_mem] at hc
     obtain⟨k,hk,e⟩:=hold _ hc
     exact names_apart ⟨i,hi⟩ ⟨k,by omega⟩ (by intro e;injection e with e;omega) e
    ·rw[if_neg (by omega),if_neg (by rw[h4,h2];simp;omega)]
     obtain⟨y,hy⟩:∃y,fs[i-1]? =some y:=⟨_,List.getElem?_eq_getElem (by have:=(List.getElem?_eq_some_iff.1 hx).1;omega)⟩
     rw[show x.around.toNat=i-1 by omega,hy,h3]
     obtain⟨n',hn',hn0',_⟩:=(hfs (i-1) y hy).slots
     simp only[List.all_cons,List.all_nil,Bool.and_true,Bool.and_eq_true,decide_eq_true_eq]
     rw[hn']
     omega
  rw[headsFrom,if_pos hhead]
  refine mades_heads fs tops hfs h5 l (i+1) _ (fun j y hy=> ?_) fun s hs=> ?_
  ·have:=hl (j+1) y (by rw[List.getElem?_cons_succ];exact hy)
   rw[show i+1+j=i+(j+1) by omega]
   exact this
  ·split at hs
   ·rename_i hc
    rcases List.mem_cons.1 hs with e|hs
    ·rcases hm.head with⟨h1,h2,h3⟩|⟨h1,h2,_⟩
     ·exact⟨i,Nat.lt_succ_self i,by rw[e,h3]⟩
     ·omega
    ·obtain⟨k,hk,e⟩:=hold s hs
     exact⟨k,by omega,e⟩
   ·obtain⟨k,hk,e⟩:=hold s hs
    exact⟨k,by omega,e⟩
theorem fineM_fine {p:Cp} {f n tops k:Nat} {o:Cf} {x:Ci} (ho:p.funcs[f]? =some o) (hn:o.slots=n) (ht:p.globals.length=tops) (hb:BodyOk n tops o.code) (hx:o.code[k]? =some x):fineB p f o.code k x=true:=by
 obtain⟨hf,hg,hl⟩:=hb.fine k x hx
 have hw:(formOf x.op).word.isEmpty=false:=by
  have h:=hf.op
  obtain⟨j,hj⟩:∃j:Fin 54,x.op=(j.val:Int):=⟨⟨x.op.toNat,by omega⟩,by simp only;omega⟩
  have:∀j:Fin 54,j.val≠0→(formOf (j.val:Int)).word.isEmpty=false:=by decide
  rw[hj]
  exact this j (by intro e;rw[hj,e] at h;omega)
 have hnum:numberedB p f x=true:=by
  have h:=hf.num
  unfold NumM at h
  unfold numberedB
  rw[ho]
  simp only
  split at h<;>rename_i ha<;>try simp only[ha]
  ·rw[h];rfl
  ·simp only[Bool.and_eq_true,decide_eq_true_eq];exact h
  ·simp only[Bool.and_eq_true,decide_eq_true_eq];exact h
  ·simp only[Bool.and_eq_true,decide_eq_true_eq];rw[hn];exact h
  ·simp only[Bool.and_eq_true,decide_eq_true_eq];rw[ht];exact h
  ·simp only[Bool.and_eq_true,decide_eq_true_eq];exact h
  ·simp only[Bool.and_eq_true,decide_eq_true_eq];exact h
  ·have hgo:goesB x.op=true:=by unfold goesB;rw[ha];rfl
   simp only[Bool.and_eq_true,decide_eq_true_eq]
   exact⟨(hf.goes hgo).1,hg hgo⟩
  ·exact h.elim
 unfold fineB
 simp only[Bool.and_eq_true,Bool.or_eq_true,decide_eq_true_eq,beq_iff_eq,Bool.not_eq_true',hw,hnum,hf.says,hf.b,true_and,true_or]
 refine⟨hf.at_.1,hf.at_.2, ?_, ?_⟩
 ·by_cases hgo:goesB x.op=true
  ·right
   rcases(hf.goes hgo).2.2 with h|⟨y,h1,h2⟩
   ·exact .inl h
   ·right
    rw[h1]
    simp[h2]
  ·left;simpa using hgo
 ·rcases hl with hl|hl
  ·exact .inl hl
  ·exact .inr (.inl hl)
theorem fineFrom_none {p:Cp} {f:Nat} {code:List Ci}:∀(l:List Ci) (k:Nat),(∀(j:Nat) (x:Ci),l[j]? =some x→fineB p f code (k+j) x=true)→fineFrom p f code k l=none
 | [],_,_=>rfl
 |x::l,k,h=>by
  rw[fineFrom,if_pos (by have:=h 0 x rfl;rwa [Nat.add_zero] at this)]
  refine fineFrom_none l (k+1) fun j y hy=> ?_
  have:=h (j+1) y (by rw[List.getElem?_cons_succ];exact hy)
  rw[show k+1+j=k+(j+1) by omega]
  exact this
theorem codes_none {p:Cp}:∀(l:List Cf) (i:Nat),(∀(j:Nat) (f:Cf),l[j]? =some f→f.code≠ []∧fineFrom p (i+j) f.code 0 f.code=none)→codesFrom p i l=none
 | [],_,_=>rfl
 |f::l,i,h=>by
  obtain⟨h1,h2⟩:=h 0 f rfl
  rw[Nat.add_zero] at h2
  rw[codesFrom,if_neg h1,h2]
  simp only
  refine codes_none l (i+1) fun j y hy=> ?_
  have:=h (j+1) y (by rw[List.getElem?_cons_succ];exact hy)
  rw[show i+1+j=i+(j+1) by omega]
  exact this
theorem fitsFrom_none:∀(l:List Cf) (i:Nat),(∀f∈l,fitsP f.code=none)→fitsFrom i l=none
 | [],_,_=>rfl
 |f::l,i,h=>by
  rw[fitsFrom,h f (List.mem_cons_self ..)]
  exact fitsFrom_none l (i+1) fun g hg=>h g (List.mem_cons_of_mem _ hg)
theorem manyFrom_none:∀(l:List Cf) (i:Nat),(∀f∈l,f.slots≤20000∧f.taken.length≤20000)→manyFrom l i=none
 | [],_,_=>rfl
 |f::l,i,h=>by
  have:=h f (List.mem_cons_self ..)
  rw[manyFrom,if_neg (by omega)]
  exact manyFrom_none l (i+1) fun g hg=>h g (List.mem_cons_of_mem _ hg)
theorem manySum_le {B:Nat}:∀(l:List Cf),(∀f∈l,f.code.length≤B)→0≤manySum l∧manySum l≤((l.length*B:Nat):Int)
 | [],_=>⟨by decide,by simp[manySum]⟩
 |f::l,h=>by
  obtain⟨h1,h2⟩:=manySum_le l fun g hg=>h g (List.mem_cons_of_mem _ hg)
  have h3:=h f (List.mem_cons_self ..)
  rw[manySum,List.length_cons,Nat.succ_mul]
  omega
theorem glob0:globalsB [] (([(⟨#[97]⟩:ByteArray),⟨#[98]⟩].take 0).map fun s=>s.data.toList)=true:=by kernel_rfl
theorem glob1:globalsB [] (([(⟨#[97]⟩:ByteArray),⟨#[98]⟩].take 1).map fun s=>s.data.toList)=true:=by kernel_rfl
theorem glob2:globalsB [] (([(⟨#[97]⟩:ByteArray),⟨#[98]⟩].take 2).map fun s=>s.data.toList)=true:=by kernel_rfl
theorem fns_right {p:Cp} {tops:Nat} (h1:1≤p.funcs.length∧p.funcs.length≤5) (htop:tops≤2) (hgl:p.globals=[(⟨#[97]⟩:ByteArray),⟨#[98]⟩].take tops) (h2:∀(j:Nat) (x:Cf),p.funcs[j]? =some x→MadeOk tops j x):rightC p=none:=by
 have htops:p.globals.length=tops:=by rw[hgl,List.length_take];simp only[List.length_cons,List.length_nil];omega
 have hmem:∀f∈p.funcs,∃j,MadeOk tops j f:=fun f hf=>by
  obtain⟨j,hj⟩:=List.getElem?_of_mem hf
  exact⟨j,h2 j f hj⟩
 have hsum:=manySum_le (B:=600) p.funcs fun f hf=>by
  obtain⟨j,hj⟩:=hmem f hf
  obtain⟨n,_,_,_,_,_,hb⟩:=hj.slots
  exact hb.len
 have h6:p.funcs.length*600≤3000:=by omega
 unfold rightC
 rw[if_neg (by
  rw[htops]
  have hw:IntKind.i64.wrap (manySum p.funcs)=manySum p.funcs:=by
   rw[IntKind.wrap_i64]
   omega
  rw[hw]
  omega)]
 rw[manyFrom_none p.funcs 0 fun f hf=>by
  obtain⟨j,hj⟩:=hmem f hf
  obtain⟨n,e,_,e5,_⟩:=hj.slots
  refine⟨by omega, ?_⟩
  rcases hj.head with⟨_,e,_⟩|⟨_,_,e,_⟩<;>rw[e]<;>decide]
 simp only
 have hgb:globalsB [] (p.globals.map fun s=>s.data.toList)=true:=by
  rw[hgl]
  have h3:tops=0∨tops=1∨tops=2:=by omega
  rcases h3 with e|e|e
  ·rw[e];exact glob0
  ·rw[e];exact glob1
  ·rw[e];exact glob2
 rw[hgb]
 simp only[Bool.not_true,Bool.false_eq_true,if_false]
 rw[mades_heads p.funcs tops h2 h1.2 p.funcs 0 [] (fun j x hx=>by rw[Nat.zero_add];exact hx) (fun s hs=>by cases hs)]
 simp only
 rw[codes_none p.funcs 0 fun j f hf=>by
  obtain⟨n,e,_,_,_,_,hb⟩:=(h2 j f hf).slots
  rw[Nat.zero_add]
  exact⟨hb.ne,fineFrom_none f.code 0 fun k x hx=>by rw[Nat.zero_add];exact fineM_fine hf e htops hb hx⟩]
 simp only
 exact fitsFrom_none p.funcs 0 fun f hf=>by
  obtain⟨j,hj⟩:=hmem f hf
  obtain⟨n,_,_,_,_,_,hb⟩:=hj.slots
  exact hb.none
theorem made_parts (raw:List Int):∃tops,tops≤2∧(madeC raw).globals=[(⟨#[97]⟩:ByteArray),⟨#[98]⟩].take tops∧1≤(madeC raw).funcs.length∧(madeC raw).funcs.length≤5∧∀(j:Nat) (x:Cf),(madeC raw).funcs[j]? =some x→MadeOk tops j x:=by
 obtain⟨t,ht⟩:∃t,Mk.next ⟨raw,0,[],0,0,0⟩ 3=t:=⟨_,rfl⟩
 have hn:=next_lt t.2 (n:=5) (by decide)
 obtain⟨p,hp⟩:∃p,madeC raw=p:=⟨_,rfl⟩
 have hfu:p.funcs=madeFns raw (min t.1 2) (1+(t.2.next 5).1) 0 (t.2.next 5).2.at_:=by rw[←hp,←ht];rfl
 have hgl:p.globals=[(⟨#[97]⟩:ByteArray),⟨#[98]⟩].take (min t.1 2):=by rw[←hp,←ht];rfl
 obtain⟨h1,h2⟩:=mades_at raw (min t.1 2) (1+(t.2.next 5).1) 0 (t.2.next 5).2.at_
 rw[←hfu] at h1 h2
 rw[hp]
 exact⟨min t.1 2,Nat.min_le_right _ _,hgl,by omega,by omega,fun j x hx=>by have:=h2 j x hx;rwa [Nat.zero_add] at this⟩
theorem made_right (raw:List Int):rightC (madeC raw)=none:=by
 obtain⟨tops,h1,h2,h3,h4,h5⟩:=made_parts raw
 exact fns_right ⟨h3,h4⟩ h1 h2 h5
theorem ba_le {s:ByteArray} {n m:Nat} (h:s.data.toList.length≤n) (hm:n≤m):s.size≤m:=Nat.le_trans (by simpa using h) hm
theorem made_cp (raw:List Int):CpOk (madeC raw):=by
 obtain⟨tops,htop,hgl,h3,h4,h2⟩:=made_parts raw
 have hr:=made_right raw
 obtain⟨p,hp⟩:∃p,madeC raw=p:=⟨_,rfl⟩
 rw[hp] at hr hgl h3 h4 h2⊢
 refine⟨by omega,by rw[hgl,List.length_take];simp only[List.length_cons,List.length_nil];omega,fun f hf=> ?_,fun s hs=> ?_⟩
 ·obtain⟨j,hj⟩:=List.getElem?_of_mem hf
  have hm:=h2 j f hj
  have hj5:j<5:=by have:=(List.getElem?_eq_some_iff.1 hj).1;omega
  obtain⟨n,e,e0,e5,p0,pn,hb⟩:=hm.slots
  have hlen:=hb.len
  have hnames:∀i:Fin 5,(madeNames.getD i.val []).length≤4:=by decide
  have hname:f.name.data.toList.length≤4:=by
   rcases hm.head with⟨_,_,e⟩|⟨_,_,_,e⟩
   ·rw[e];exact hnames ⟨j,hj5⟩
   ·rw[e];decide
  refine⟨ba_le hname (by decide),⟨by omega,by omega⟩,⟨by omega,by omega⟩, ?_, ?_,by omega, ?_,fun x hx=> ?_⟩
  ·rcases hm.head with⟨e,_⟩|⟨_,e,_⟩<;>rw[e]<;>exact⟨by omega,by omega⟩
  ·rcases hm.head with⟨_,e,_⟩|⟨_,_,e,_⟩<;>rw[e]<;>decide
  ·intro t ht
   rcases hm.head with⟨_,e,_⟩|⟨_,_,e,_⟩<;>rw[e] at ht
   ·cases ht
   ·rw[List.mem_singleton.1 ht];exact⟨by decide,by decide⟩
  ·obtain⟨k,hk⟩:=List.getElem?_of_mem hx
   have hfi:=right_fine hr hj hk
   obtain⟨hfm,hga,_⟩:=hb.fine k x hk
   have htx:=by
    have:=hfi
    unfold fineB at this
    simp only[Bool.and_eq_true] at this
    exact says_len this.2.2.2.1 this.2.2.2.2.1
   refine⟨⟨by have:=hfm.op;omega,by have:=hfm.op;omega⟩, ?_,by rw[hfm.b];exact⟨by decide,by decide⟩,⟨by have:=hfm.at_;omega,by have:=hfm.at_;omega⟩,ba_le htx (by decide)⟩
   have hnum:=hfm.num
   unfold NumM at hnum
   unfold okI
   split at hnum
   ·omega
   ·omega
   ·omega
   ·omega
   ·omega
   ·omega
   ·omega
   ·rename_i ha
    have hgo:goesB x.op=true:=by unfold goesB;rw[ha];rfl
    have:=(hfm.goes hgo).1
    have:=hga hgo
    omega
   ·exact hnum.elim
 ·rw[hgl] at hs
  have:=List.mem_of_mem_take hs
  simp only[List.mem_cons,List.not_mem_nil,or_false] at this
  rcases this with e|e<;>rw[e]<;>decide
def spoilF (w k:Nat) (x:Cf):Cf:=match w with
 |0=> {x with code:=x.code.modify k fun i=> {i with op:=0}}
 |1=> {x with code:=x.code.modify k fun i=> {i with op:=54}}
 |2=> {x with code:=x.code.modify k fun i=> {i with at_:= -1}}
 |3=> {x with code:=x.code++ [⟨7,0,0,⟨#[]⟩,0⟩]}
 |4=> {x with slots:=x.params-1}
 |5=>x
 |6=> {x with code:=x.code.set (x.code.length-1) ⟨34,x.code.length,0,⟨#[]⟩,0⟩}
 |_=> {x with code:=x.code++ [⟨16,0,0,⟨#[]⟩,0⟩,⟨50,0,0,⟨#[]⟩,0⟩]}
def spoilC (p:Cp) (f w k:Nat):Cp:=⟨p.funcs.modify f (spoilF w k),if w=5 then p.globals++ [⟨#[99]⟩,⟨#[99]⟩] else p.globals⟩
theorem right_130 {p:Cp} (h1:1≤p.funcs.length∧p.funcs.length≤20000) (h2:p.globals.length≤20000) (h3:0≤manySum p.funcs∧manySum p.funcs≤60000) (h4:∀f∈p.funcs,f.slots≤20000∧f.taken.length≤20000) {w:Cwr} (h:rightC p=some w):w.code=130:=by
 unfold rightC at h
 rw[if_neg (by
  have hw:IntKind.i64.wrap (manySum p.funcs)=manySum p.funcs:=by
   rw[IntKind.wrap_i64]
   omega
  rw[hw]
  omega),manyFrom_none p.funcs 0 h4] at h
 simp only at h
 have hcodes:∀(l:List Cf) (i:Nat) (w:Cwr),codesFrom p i l=some w→w.code=130:=by
  intro l
  induction l with
  |nil=>intro i w h;cases h
  |cons f l ih=>
   intro i w h
   rw[codesFrom] at h
   split at h
   ·injection h with h;rw[←h]
   ·split at h
    ·injection h with h;rw[←h]
    ·exact ih _ w h
 have hfits:∀(l:List Cf) (i:Nat) (w:Cwr),fitsFrom i l=some w→w.code=130:=by
  intro l
  induction l with
  |nil=>intro i w h;cases h
  |cons f l ih=>
   intro i w h
   rw[fitsFrom] at h
   split at h
   ·injection h with h;rw[←h]
   ·exact ih _ w h
 split at h
 ·injection h with h;rw[←h]
 ·split at h
  ·injection h with h;rw[←h]
  ·split at h
   ·rename_i w' hc
    injection h with h
    rw[←h]
    exact hcodes _ _ _ hc
   ·exact hfits _ _ _ h
theorem BodyOk.more {slots tops:Nat} {code:List Ci} (h:BodyOk slots tops code) (hl:code.length≤598):BodyOk slots tops (code++ [⟨16,0,0,⟨#[]⟩,0⟩,⟨50,0,0,⟨#[]⟩,0⟩]):=by
 obtain⟨ss,hlen,hfirst,hfit⟩:=h.fits
 refine⟨by simp,by rw[List.length_append];simp only[List.length_cons,List.length_nil];omega,⟨ss,by rw[List.length_append];omega,hfirst,fun k x s hx hs=> ?_⟩,fun k x hx=> ?_⟩
 ·have hk:k<ss.length:=(List.getElem?_eq_some_iff.1 hs).1
  rw[List.getElem?_append_left (by omega)] at hx
  exact hfit k x s hx hs
 ·rcases Nat.lt_or_ge k code.length with hk|hk
  ·rw[List.getElem?_append_left hk] at hx
   obtain⟨h1,h2,_⟩:=h.fine k x hx
   refine⟨h1.more _,fun g=> ?_,.inl ?_⟩
   ·have:=h2 g;rw[List.length_append];omega
   ·rw[List.length_append];simp only[List.length_cons,List.length_nil];omega
  ·rw[List.getElem?_append_right hk] at hx
   obtain⟨j,hj⟩:∃j,k-code.length=j:=⟨_,rfl⟩
   rw[hj] at hx
   have hn:(code++ [(⟨16,0,0,⟨#[]⟩,0⟩:Ci),⟨50,0,0,⟨#[]⟩,0⟩]).length=code.length+2:=by rw[List.length_append];rfl
   match j,hx with
   |0,hx=>
    cases hx
    exact⟨⟨by decide,by decide,rfl,rfl,rfl,fun g=>(by cases g)⟩,fun g=>(by cases g),.inl (by rw[hn];omega)⟩
   |1,hx=>
    cases hx
    exact⟨⟨by decide,by decide,rfl,rfl,rfl,fun g=>(by cases g)⟩,fun g=>(by cases g),.inr rfl⟩
   |j+2,hx=>simp at hx
theorem made_short (raw:List Int) (tops f at_:Nat):(madeFn raw tops f at_).1.code.length≤598:=by
 unfold madeFn
 simp only
 obtain⟨p,hp⟩:∃p,(if 0<f then Mk.next ⟨raw,at_,[],0,0,0⟩ 3 else(0,(⟨raw,at_,[],0,0,0⟩:Mk)))=p:=⟨_,rfl⟩
 rw[hp]
 obtain⟨l,hl⟩:∃l,(if 1<f then p.2.next 3 else(1,p.2))=l:=⟨_,rfl⟩
 rw[hl]
 have h:=(body_ok ⟨raw,(l.2.next 3).2.at_,[],0,p.1+1+(l.2.next 3).1,tops⟩ rfl rfl (by show 0<p.1+1+_;omega)).2
 by_cases h0:l.1=0
 ·rw[if_pos h0];exact h
 ·rw[if_neg h0];exact h
theorem mades_short (raw:List Int) (tops:Nat):∀(n f at_:Nat),∀x∈madeFns raw tops n f at_,x.code.length≤598
 |0,_,_,x,h=>by simp[madeFns] at h
 |n+1,f,at_,x,h=>by
  rw[madeFns] at h
  rcases List.mem_cons.1 h with e|h
  ·rw[e];exact made_short raw tops f at_
  ·exact mades_short raw tops n _ _ x h
theorem modify_at {α:Type} (g:α→α) (l:List α) (f j:Nat):(l.modify f g)[j]? =if f=j then(l[j]?).map g else l[j]? :=by
 rw[List.getElem?_modify]
 split<;>simp
theorem spoil_right (raw:List Int) (f k w:Nat) (hw:7≤w):rightC (spoilC (madeC raw) f w k)=none:=by
 obtain⟨tops,h1,h2,h3,h4,h5⟩:=made_parts raw
 have hs:∀x∈(madeC raw).funcs,x.code.length≤598:=mades_short raw _ _ _ _
 have hf:spoilF w k=fun x=> {x with code:=x.code++ [⟨16,0,0,⟨#[]⟩,0⟩,⟨50,0,0,⟨#[]⟩,0⟩]}:=by
  funext x
  unfold spoilF
  split
  all_goals first
   |omega
   |rfl
 refine fns_right (tops:=tops) ?_ h1 ?_ fun j x hx=> ?_
 ·unfold spoilC;simp only[List.length_modify];exact⟨h3,h4⟩
 ·unfold spoilC;rw[if_neg (by omega)];exact h2
 ·unfold spoilC at hx
  simp only[modify_at] at hx
  split at hx
  ·cases hj:(madeC raw).funcs[j]? with
   |none=>rw[hj] at hx;cases hx
   |some y=>
    rw[hj,hf] at hx
    simp only[Option.map_some,Option.some.injEq] at hx
    subst hx
    have hm:=h5 j y hj
    obtain⟨n,e1,e2,e3,e4,e5,e6⟩:=hm.slots
    exact⟨⟨n,e1,e2,e3,e4,e5,e6.more (hs y (List.mem_of_getElem? hj))⟩,hm.zero,hm.head⟩
  ·exact h5 j x hx
theorem twice0:¬globalsB [] ((([(⟨#[97]⟩:ByteArray),⟨#[98]⟩]:List ByteArray).take 0++([⟨#[99]⟩,⟨#[99]⟩]:List ByteArray)).map fun(s:ByteArray)=>s.data.toList)=true:=by
 rw[show globalsB [] ((([(⟨#[97]⟩:ByteArray),⟨#[98]⟩]:List ByteArray).take 0++([⟨#[99]⟩,⟨#[99]⟩]:List ByteArray)).map fun(s:ByteArray)=>s.data.toList)=false by kernel_rfl];decide
theorem twice1:¬globalsB [] ((([(⟨#[97]⟩:ByteArray),⟨#[98]⟩]:List ByteArray).take 1++([⟨#[99]⟩,⟨#[99]⟩]:List ByteArray)).map fun(s:ByteArray)=>s.data.toList)=true:=by
 rw[show globalsB [] ((([(⟨#[97]⟩:ByteArray),⟨#[98]⟩]:List ByteArray).take 1++([⟨#[99]⟩,⟨#[99]⟩]:List ByteArray)).map fun(s:ByteArray)=>s.data.toList)=false by kernel_rfl];decide
theorem twice2:¬globalsB [] ((([(⟨#[97]⟩:ByteArray),⟨#[98]⟩]:List ByteArray).take 2++([⟨#[99]⟩,⟨#[99]⟩]:List ByteArray)).map fun(s:ByteArray)=>s.data.toList)=true:=by
 rw[show globalsB [] ((([(⟨#[97]⟩:ByteArray),⟨#[98]⟩]:List ByteArray).take 2++([⟨#[99]⟩,⟨#[99]⟩]:List ByteArray)).map fun(s:ByteArray)=>s.data.toList)=false by kernel_rfl];decide
theorem spoil_bad (raw:List Int) (f k w:Nat) (hw:w<7) {y:Cf} (hy:(madeC raw).funcs[f]? =some y) (hk:k<y.code.length):∃x,rightC (spoilC (madeC raw) f w k)=some x∧x.code=130:=by
 obtain⟨tops,h1,h2,h3,h4,h5⟩:=made_parts raw
 have hs:∀x∈(madeC raw).funcs,x.code.length≤598:=mades_short raw _ _ _ _
 obtain⟨p,hp⟩:∃p,madeC raw=p:=⟨_,rfl⟩
 rw[hp] at h2 h3 h4 h5 hs hy⊢
 have hfl:(spoilC p f w k).funcs.length=p.funcs.length:=by unfold spoilC;simp
 have hlen:∀x:Cf,(spoilF w k x).code.length≤x.code.length+2:=by
  intro x
  unfold spoilF
  split<;>(try simp only[List.length_modify,List.length_append,List.length_set,List.length_cons,List.length_nil])<;>omega
 have htk:∀x:Cf,(spoilF w k x).taken=x.taken∧((spoilF w k x).slots=x.slots∨(spoilF w k x).slots=x.params-1):=by
  intro x
  unfold spoilF
  split<;>simp
 have hall:∀(P:Cf→Prop),(∀x∈p.funcs,P x∧P (spoilF w k x))→∀x∈(spoilC p f w k).funcs,P x:=by
  intro P h x hx
  obtain⟨j,hj⟩:=List.getElem?_of_mem hx
  unfold spoilC at hj
  simp only[modify_at] at hj
  split at hj
  ·cases hz:p.funcs[j]? with
   |none=>rw[hz] at hj;cases hj
   |some z=>
    rw[hz] at hj
    simp only[Option.map_some,Option.some.injEq] at hj
    rw[←hj]
    exact(h z (List.mem_of_getElem? hz)).2
  ·exact(h x (List.mem_of_getElem? hj)).1
 have hsum:=manySum_le (B:=600) (spoilC p f w k).funcs (hall (fun x=>x.code.length≤600) fun x hx=>⟨by have:=hs x hx;omega,by have:=hlen x;have:=hs x hx;omega⟩)
 have hslots:=hall (fun x=>x.slots≤20000∧x.taken.length≤20000) fun x hx=>by
  obtain⟨j,hj⟩:=List.getElem?_of_mem hx
  have hm:=h5 j x hj
  obtain⟨n,e1,e2,e3,e4,e5,e6⟩:=hm.slots
  have ht:x.taken.length≤20000:=by
   rcases hm.head with⟨_,e,_⟩|⟨_,_,e,_⟩<;>rw[e]<;>decide
  refine⟨⟨by omega,ht⟩, ?_⟩
  rw[(htk x).1]
  refine⟨?_,ht⟩
  rcases(htk x).2 with e|e<;>rw[e]<;>omega
 have hgl:(spoilC p f w k).globals.length≤20000:=by
  unfold spoilC
  simp only
  split
  ·rw[List.length_append,h2,List.length_take];simp only[List.length_cons,List.length_nil];omega
  ·rw[h2,List.length_take];simp only[List.length_cons,List.length_nil];omega
 cases hr:rightC (spoilC p f w k) with
 |some x=>exact⟨x,rfl,right_130 (by omega) hgl (by rw[hfl] at hsum;have:p.funcs.length*600≤3000:=(by omega);omega) hslots hr⟩
 |none=>
  exfalso
  have hfy:(spoilC p f w k).funcs[f]? =some (spoilF w k y):=by
   unfold spoilC
   simp only[modify_at,if_true,hy,Option.map_some]
  have hkc:∃c,y.code[k]? =some c:=⟨_,List.getElem?_eq_getElem hk⟩
  obtain⟨c,hc⟩:=hkc
  have hm:=h5 f y hy
  obtain⟨n,e1,e2,e3,e4,e5,e6⟩:=hm.slots
  have hparts:=right_parts hr
  match w,hw with
  |0,_=>
   have hx:(spoilF 0 k y).code[k]? =some {c with op:=0}:=by show(y.code.modify k _)[k]? =_;rw[modify_at,if_pos rfl,hc];rfl
   have:=(fine_fit hfy (right_fine hr hfy hx)).op
   exact absurd this.1 (by show¬(1:Int)≤0;decide)
  |1,_=>
   have hx:(spoilF 1 k y).code[k]? =some {c with op:=54}:=by show(y.code.modify k _)[k]? =_;rw[modify_at,if_pos rfl,hc];rfl
   have:=(fine_fit hfy (right_fine hr hfy hx)).op
   exact absurd this.2 (by show¬(54:Int)≤53;decide)
  |2,_=>
   have hx:(spoilF 2 k y).code[k]? =some {c with at_:= -1}:=by show(y.code.modify k _)[k]? =_;rw[modify_at,if_pos rfl,hc];rfl
   have:=right_fine hr hfy hx
   unfold fineB at this
   simp only[Bool.and_eq_true,decide_eq_true_eq] at this
   exact absurd this.2.1 (by show¬(0:Int)≤-1;decide)
  |3,_=>
   have hx:(spoilF 3 k y).code[y.code.length]? =some ⟨7,0,0,⟨#[]⟩,0⟩:=by show(y.code++ [_])[y.code.length]? =_;simp
   have:=(fine_fit hfy (right_fine hr hfy hx)).last (by decide) (by decide)
   have hl:(spoilF 3 k y).code.length=y.code.length+1:=by show(y.code++ [_]).length=_;simp
   omega
  |4,_=>
   obtain⟨j,o,hh⟩:=heads_all _ _ _ hparts.2.2.2 _ (List.mem_of_getElem? hfy)
   unfold headedB at hh
   rw[if_pos (by right;right;show y.params-1<y.params;omega)] at hh
   cases hh
  |5,_=>
   have hg:=hparts.2.2.1
   have:(spoilC p f 5 k).globals=[(⟨#[97]⟩:ByteArray),⟨#[98]⟩].take tops++ [⟨#[99]⟩,⟨#[99]⟩]:=by unfold spoilC;rw[if_pos rfl,h2]
   rw[this] at hg
   have h012:tops=0∨tops=1∨tops=2:=by omega
   rcases h012 with e|e|e
   ·rw[e] at hg;exact absurd hg twice0
   ·rw[e] at hg;exact absurd hg twice1
   ·rw[e] at hg;exact absurd hg twice2
  |6,_=>
   have hpos:0<y.code.length:=by omega
   have hx:(spoilF 6 k y).code[y.code.length-1]? =some ⟨34,y.code.length,0,⟨#[]⟩,0⟩:=by
    show(y.code.set (y.code.length-1) _)[y.code.length-1]? =_
    rw[List.getElem?_set,if_pos rfl,if_pos (by omega)]
   have:=(fine_fit hfy (right_fine hr hfy hx)).goes rfl
   have hl:(spoilF 6 k y).code.length=y.code.length:=by show(y.code.set _ _).length=_;simp
   have h2:=this.2
   simp only at h2
   omega
open Go.RowKit
def least:Cp:=⟨[⟨⟨#[]⟩,0,1,[],-1,[⟨7,0,0,⟨#[]⟩,0⟩,⟨50,0,0,⟨#[]⟩,0⟩]⟩],[]⟩
def leastB:List UInt8:=[71,67,48,49,0,2,0,0,2,0,1,4,14,0,0,0,0,100,0,0,0,0]
def leastL:List UInt8:=[103,108,111,98,97,108,115,10,102,117,110,99,32,45,32,48,32,49,32,45,49,10,9,110,105,108,32,48,32,48,32,48,10,9,114,101,116,117,114,110,32,48,32,48,32,48,10]
theorem least_right:rightC least=none:=by kernel_rfl
theorem least_bad:rightC ⟨[⟨⟨#[]⟩,0,0,[],-1,[⟨50,0,0,⟨#[]⟩,0⟩]⟩],[]⟩=some ⟨130,0,some 0⟩:=by kernel_rfl
theorem least_bytes:encodeB least=leastB:=by kernel_rfl
theorem least_dec:decodeD leastB=(least,none):=by kernel_rfl
theorem itoa_0:Lib.itoa 0=[48]:=by unfold Lib.itoa;rw[if_neg (by decide)];unfold Lib.decDigits;rfl
theorem itoa_1:Lib.itoa 1=[49]:=by unfold Lib.itoa;rw[if_neg (by decide)];unfold Lib.decDigits;rfl
theorem itoa_m1:Lib.itoa (-1)=[45,49]:=by unfold Lib.itoa;rw[if_pos (by decide)];unfold Lib.decDigits;rfl
theorem least_lines:listL least=leastL:=by
 simp only[listL,least,leastL,funcL,instL,wordsL,List.flatMap_cons,List.flatMap_nil,itoa_0,itoa_1,itoa_m1,List.append_nil]
 rfl
theorem int_0:intOfL [48]=some 0:=by
 unfold intOfL
 rw[show Lib.parseIntB 64 [48]= .ok 0 by rfl]
 simp only[itoa_0,if_true]
theorem int_1:intOfL [49]=some 1:=by
 unfold intOfL
 rw[show Lib.parseIntB 64 [49]= .ok 1 by rfl]
 simp only[itoa_1,if_true]
theorem int_m1:intOfL [45,49]=some (-1):=by
 unfold intOfL
 rw[show Lib.parseIntB 64 [45,49]= .ok (-1) by rfl]
 simp only[itoa_m1,if_true]
theorem least_read:readL leastL=(least,none):=by
 have l1:lineL ⟨[],[]⟩ 0 [103,108,111,98,97,108,115]=some ⟨[],[]⟩:=by kernel_rfl
 have l2:lineL ⟨[],[]⟩ 1 [102,117,110,99,32,45,32,48,32,49,32,45,49]=some ⟨[⟨⟨#[]⟩,0,1,[],-1,[]⟩],[]⟩:=by
  have hs:splitC 32 [102,117,110,99,32,45,32,48,32,49,32,45,49]=[[102,117,110,99],[45],[48],[49],[45,49]]:=by kernel_rfl
  have hi:intsL [[48],[49],[45,49]]=some [0,1,-1]:=by simp only[intsL,int_0,int_1,int_m1]
  have ho:openedL [[102,117,110,99],[45],[48],[49],[45,49]]=some ⟨⟨#[]⟩,0,1,[],-1,[]⟩:=by
   unfold openedL
   simp only[hi]
   rfl
  unfold lineL
  rw[if_neg (by decide)]
  simp only[hs,ho]
  rfl
 have hi3:intsL [[48],[48],[48]]=some [0,0,0]:=by simp only[intsL,int_0]
 have l3:lineL ⟨[⟨⟨#[]⟩,0,1,[],-1,[]⟩],[]⟩ 2 [9,110,105,108,32,48,32,48,32,48]=some ⟨[⟨⟨#[]⟩,0,1,[],-1,[⟨7,0,0,⟨#[]⟩,0⟩]⟩],[]⟩:=by
  have hx:instR [110,105,108,32,48,32,48,32,48]=some ⟨7,0,0,⟨#[]⟩,0⟩:=by
   unfold instR
   rw[show splitM 32 4 [110,105,108,32,48,32,48,32,48]=[[110,105,108],[48],[48],[48]] by kernel_rfl]
   simp only[hi3]
   rfl
  unfold lineL
  rw[if_neg (by decide)]
  simp only[hx]
  rfl
 have l4:lineL ⟨[⟨⟨#[]⟩,0,1,[],-1,[⟨7,0,0,⟨#[]⟩,0⟩]⟩],[]⟩ 3 [9,114,101,116,117,114,110,32,48,32,48,32,48]=some least:=by
  have hx:instR [114,101,116,117,114,110,32,48,32,48,32,48]=some ⟨50,0,0,⟨#[]⟩,0⟩:=by
   unfold instR
   rw[show splitM 32 4 [114,101,116,117,114,110,32,48,32,48,32,48]=[[114,101,116,117,114,110],[48],[48],[48]] by kernel_rfl]
   simp only[hi3]
   rfl
  unfold lineL
  rw[if_neg (by decide)]
  simp only[hx]
  rfl
 have c1:cutAt 10 leastL=([103,108,111,98,97,108,115],some (leastL.drop 8)):=by kernel_rfl
 have c2:cutAt 10 (leastL.drop 8)=([102,117,110,99,32,45,32,48,32,49,32,45,49],some (leastL.drop 22)):=by kernel_rfl
 have c3:cutAt 10 (leastL.drop 22)=([9,110,105,108,32,48,32,48,32,48],some (leastL.drop 33)):=by kernel_rfl
 have c4:cutAt 10 (leastL.drop 33)=([9,114,101,116,117,114,110,32,48,32,48,32,48],some []):=by kernel_rfl
 unfold readL
 rw[if_neg (by decide),show leastL.length+1=48 by rfl,linesL,if_neg (by decide),c1]
 simp only[l1]
 rw[linesL,if_neg (by decide),c2]
 simp only[l2]
 rw[linesL,if_neg (by decide),c3]
 simp only[l3]
 rw[linesL,if_neg (by decide),c4]
 simp only[l4]
 rw[linesL,if_pos rfl]
end Go.Proofs.YtagnicbknbmccaaGreatDoor
