/- code.ints of texts that are not numbers. code.fine of any instruction: fineB. code.Right of any program: what it answers is rightC. code.Right of any program: what it answers is rightC (the walk). -/
import Derived.Test.YtdjbkppdppdcgaaGreatDoorMCxJ
import Derived.Test.YtdjbkppdppdcgaaGreatDoorCzO
import Derived.Test.YtdjbkppdppdcgaaGreatDoorMCzP
import Derived.Test.YtdjbkppdppdcgaaGreatDoorMCzQ
import Derived.Test.YtdjbkppdppdcgaaGreatDoorMCzH
import Derived.Test.YtdjbkppdppdcgaaGreatDoorMCwU
import Derived.Test.YtdjbkppdppdcgaaGreatDoorMCxA
import Derived.Test.YtdjbkppdppdcgaaGreatDoorMCwF
import Derived.Test.YtdjbkppdppdcgaaGreatDoorSqC
set_option maxRecDepth 100000
set_option maxHeartbeats 8000000
namespace Go.Proofs.YtdjbkppdppdcgaaGreatDoor
open Go.RowKit
theorem ints_none {w:World} (hG:Gc w) {A:Option Addr} {l:List (List UInt8)} {c m:Nat} (hm:l.length=m) (h:RowIs w w.heap.size A (l.map fun s=>Value.string ⟨⟨s⟩⟩)) (hn:intsL l=none) (hlen:∀s∈l,s.length≤140737488351232) (hmb:m≤1000000000):
  Calls Tryz.prog 97 #[.slice A m c] w fun e w'=>e= .returned (.tuple #[.slice none 0 0,.bool false])∧Below w.heap.size w w':=by
 obtain⟨i0,hi,hz0,hz1,hz2⟩:=info_parts intInfo
 have HG:=Lib.hid hG
 have HA:=Lib.hid h
 have HM:=Lib.hid hm
 have HL:=Lib.hid hlen
 have HN:Hid (intsL (l.drop 0)=none):=Lib.hid hn
 clear hG h hm hlen hn
 go_enter Tryz.func97,Tryz.ntmps97
 go_wp2_with fail
 go_loopw [4,11] (fun v i wr=>∃(j:Nat) (acc:List Int),i= .int .i64 j∧j≤m∧acc.length=j∧Hid (wr.ownsRow w.heap.size 3 1 v acc.length (acc.map (Value.int .i64)))∧Hid (Below w.heap.size w wr)∧Hid (intsL (l.drop j)=none)) (fun _ i _=>m-(intOf i).toNat)
 case atStart=>exact⟨0,[],rfl,Nat.zero_le _,rfl,Lib.hid (World.ownsRow_nil _ _ _ _),Lib.hid (Below.refl _ _),HN⟩
 case round=>
  clear HN
  obtain⟨j,acc,rfl,hj,hacc,HO,HB,HN⟩:=hrel
  by_cases hlt:j<m
  ·obtain⟨x,hx⟩:∃x,l[j]? =some x:=⟨_,List.getElem?_eq_getElem (by rw[HM.out];exact hlt)⟩
   obtain⟨g,o,rfl,hg,hc⟩:=HA.out.at (by rw[List.length_map,HM.out];omega)
   have c0:=old_cell0 (hc j (.string ⟨⟨x⟩⟩) (by simp[hx])) HB.out
   have hxl:=HL.out x (List.mem_of_getElem? hx)
   have hN2:=HN.out
   rw[drop_cons hx] at hN2
   cases hin:intOfL x with
   |none=>
    have HI:Hid ((intOfL (⟨⟨x⟩⟩:ByteArray).data.toList).isSome=false):=Lib.hid (by show(intOfL x).isSome=false;rw[hin];rfl)
    have HXL:Hid ((⟨⟨x⟩⟩:ByteArray).size≤140737488351232):=Lib.hid hxl
    have hdig:∀W,Below w.heap.size w W→Calls Tryz.prog 82 #[.string ⟨⟨x⟩⟩] W fun e w'=>e= .returned (.bool false)∧Below W.heap.size W w':=fun W hb=>by
     have:=digits_any (HG.out.up hb) ⟨⟨x⟩⟩ (Nat.le_trans HXL.out (by decide))
     rw[HI.out] at this
     exact this
    have HD:=Lib.hid hdig
    clear hx hg hc hin hdig hxl hN2
    go_wp2_with (go_at_call 82;refine(HD.out _ HB.out).mono ?_;rintro e w1 ⟨rfl,hb1⟩;have HB1:=Lib.hid (HB.out.trans (hb1.mono HB.out.size));clear hb1)
    go_ret2
    exact⟨rfl,HB1.out⟩
   |some n=>
   have hrs:intsL (l.drop (j+1))=none:=by
    rw[intsL,hin] at hN2
    cases h2:intsL (l.drop (j+1)) with
    |none=>rfl
    |some l2=>rw[h2] at hN2;cases hN2
   have hpo:=intOf_parse hin
   have hok:=parseI_ok hpo
   have HP:Hid (Lib.atoiAll (⟨⟨x⟩⟩:ByteArray).data.toList= .ok n):=Lib.hid (by rw[←Lib.parseIntB_64];exact hpo)
   have HI:Hid ((intOfL (⟨⟨x⟩⟩:ByteArray).data.toList).isSome=true):=Lib.hid (by show(intOfL x).isSome=true;rw[hin];rfl)
   have HXL:Hid ((⟨⟨x⟩⟩:ByteArray).size≤140737488351232):=Lib.hid hxl
   have HN2:Hid (intsL (l.drop (j+1))=none):=Lib.hid hrs
   have hdig:∀W,Below w.heap.size w W→Calls Tryz.prog 82 #[.string ⟨⟨x⟩⟩] W fun e w'=>e= .returned (.bool true)∧Below W.heap.size W w':=fun W hb=>by
    have:=digits_any (HG.out.up hb) ⟨⟨x⟩⟩ (Nat.le_trans HXL.out (by decide))
    rw[HI.out] at this
    exact this
   have HD:=Lib.hid hdig
   have hat:∀W,Below wr.heap.size wr W→W.ownsRow w.heap.size 3 1 u4 acc.length (acc.map (Value.int .i64))∧Below w.heap.size w W:=fun W hb=>⟨own_up HO.out hb,HB.out.trans (hb.mono HB.out.size)⟩
   have HAT:=Lib.hid hat
   clear hx hg hc hin hrs hpo hok hdig hxl hat hN2
   go_wp2_with (first
    |(go_at_call 82;refine(HD.out _ HB.out).mono ?_;rintro e w1 ⟨rfl,hb1⟩)
    |(go_at_call 122;refine(Tryz.strconv_Atoi_ok _ (Nat.le_trans HXL.out (by decide)) n HP.out _).mono ?_;rintro e w2 ⟨rfl,hw2⟩;have hb2:=hb1.trans ((atoi_low hw2).mono hb1.size);clear hw2;obtain⟨ho2,hl2⟩:=HAT.out _ hb2)
    |(at_builtin;refine wpList_append_lies _ rfl _ _ 30 rfl w.heap.size 3 i0 _ 1 8 Tryz.underlying30 hi hz0 hz1 hz2 rfl (by decide) u4 acc.length (acc.map (Value.int .i64)) rfl (ho2.alloc _) ⟨w2.heap.size,0,none⟩ 1 1 [.int .i64 n] rfl rfl (new_cells w2 [.int .i64 n] _ _) (by simp[Value.oneCell']) (by decide) (by unfold maxLen;omega) (by omega) (by have:=hl2.size;rw[World.size_alloc];omega) _ rfl ?_;intro g1 cap1 w3 ho3 hg3 hat3 hlt3))
   have hb3:Below w.heap.size w w3:=grown_below (hl2.alloc hl2.size _) (ho2.alloc _) (by have:=hl2.size;rw[World.size_alloc];omega) hg3
   go_wp2_with fail
   go_roundw
   case rel=>exact⟨j+1,acc++ [n],by simp,by omega,by simp[hacc],Lib.hid (by subst hacc;simpa using ho3),Lib.hid hb3,HN2⟩
   case measure=>simp[intOf];omega
  ·obtain rfl:j=m:=by omega
   have:=HN.out
   rw[List.drop_of_length_le (by rw[HM.out];exact Nat.le_refl _)] at this
   cases this
theorem goes_range {p:Cp} {f:Nat} {o:Cf} (ho:p.funcs[f]? =some o) {x:Ci} (hn:numberedB p f x=true) (hg:goesB x.op=true):0≤x.a∧x.a<o.code.length:=by
 rw[numb_eq ho] at hn
 have h10:(formOf x.op).a=10:=by
  have:((formOf x.op).a==10)=true:=hg
  simpa using this
 rw[h10] at hn
 simpa[numbE] using hn
theorem goes26:goesB 26=false:=by kernel_rfl
theorem fine_any {p:Cp} {v:Value} {w:World} (hG:Gc w) (hv:LiesC w w.heap.size p v) {f k:Nat} {o:Cf} (ho:p.funcs[f]? =some o) {x:Ci} (hx:o.code[k]? =some x) (hlen:o.code.length≤60000) (hsay:numberedB p f x=true→SaysOk x):
  Calls Tryz.prog 32 #[v,.int .i64 f,.int .i64 k] w fun e w'=>e= .returned (.bool (fineB p f o.code k x))∧Below w.heap.size w w':=by
 unfold fineB
 cases hw:(formOf x.op).word.isEmpty with
 |true=>exact fine_noword hG hv ho hx hlen hsay hw
 |false=>
 by_cases h0:x.at_<0
 ·rw[decide_eq_false (show¬0≤x.at_ by omega)]
  exact fine_before hG hv ho hx hlen hsay hw h0
 by_cases h1:60000<x.at_
 ·rw[decide_eq_true (show 0≤x.at_ by omega),decide_eq_false (show¬x.at_≤60000 by omega)]
  exact fine_behind hG hv ho hx hlen hsay hw h1
 have hat:0≤x.at_∧x.at_≤60000:=by omega
 rw[decide_eq_true hat.1,decide_eq_true hat.2]
 cases en:numberedB p f x with
 |false=>exact fine_number hG hv ho hx hlen hsay hw hat en
 |true=>
 cases es:saysB x with
 |false=>exact fine_text hG hv ho hx hlen hsay hw hat en es
 |true=>
 simp only[Bool.not_false,Bool.true_and]
 by_cases h26:x.op=26
 ·have eg:goesB x.op=false:=by rw[h26];exact goes26
  have e26:(x.op==26)=true:=by simp[h26]
  rw[eg,e26]
  simp only[Bool.not_false,Bool.true_or,Bool.true_and]
  by_cases hb0:x.b=0
  ·rw[show(x.b==0)=true by simp[hb0]]
   by_cases ha:x.a=2
   ·exact fine_n3 hG hv ho hx hlen hsay hw hat en es h26 hb0 ha eg
   ·exact fine_n2 hG hv ho hx hlen hsay hw hat en es h26 hb0 ha eg
  ·by_cases hb1:x.b=1
   ·rw[show(x.b==1)=true by simp[hb1],Bool.true_or,Bool.or_true]
    exact fine_n4 hG hv ho hx hlen hsay hw hat en es h26 hb1 eg
   ·rw[show(x.b==0)=false by simp[hb0],show(x.b==1)=false by simp[hb1]]
    by_cases ha:x.a=2
    ·rw[show(x.a==2)=true by simp[ha]]
     by_cases hb2:x.b=2
     ·rw[show(x.b==2)=true by simp[hb2]]
      exact fine_n5 hG hv ho hx hlen hsay hw hat en es h26 ha hb2 eg
     ·by_cases hb3:x.b=3
      ·rw[show(x.b==3)=true by simp[hb3],Bool.or_true]
       exact fine_n6 hG hv ho hx hlen hsay hw hat en es h26 ha hb3 eg
      ·rw[show(x.b==2)=false by simp[hb2],show(x.b==3)=false by simp[hb3]]
       exact fine_b3 hG hv ho hx hlen hsay hw hat en es h26 ha ⟨hb0,hb1,hb2,hb3⟩
    ·rw[show(x.a==2)=false by simp[ha]]
     exact fine_b2 hG hv ho hx hlen hsay hw hat en es hb0 h26 hb1 ha
 ·rw[show(x.op==26)=false by simp[h26]]
  by_cases hb:x.b=0
  ·rw[show(x.b==0)=true by simp[hb]]
   cases eg:goesB x.op with
   |false=>exact fine_n1 hG hv ho hx hlen hsay hw hat en es h26 hb eg
   |true=>
    obtain⟨ha0,ha1⟩:=goes_range ho en eg
    by_cases hak:(k:Int)<x.a
    ·rw[decide_eq_true hak]
     exact fine_g1 hG hv ho hx hlen hsay hw hat en es h26 hb eg hak
    ·obtain⟨j,hj⟩:∃j:Nat,x.a=(j:Int):=⟨x.a.toNat,by omega⟩
     obtain⟨y,hy⟩:∃y,o.code[j]? =some y:=⟨_,List.getElem?_eq_getElem (by omega)⟩
     rw[decide_eq_false hak,show x.a.toNat=j by omega,hy]
     by_cases hy1:y.op=1
     ·simp only[hy1]
      exact fine_g2 hG hv ho hx hlen hsay hw hat en es h26 hb eg hj hy (by omega) hy1
     ·by_cases hy2:y.op=2
      ·simp only[hy2]
       exact fine_g3 hG hv ho hx hlen hsay hw hat en es h26 hb eg hj hy (by omega) hy2
      ·have z1:(y.op==1)=false:=by simp[hy1]
       have z2:(y.op==2)=false:=by simp[hy2]
       simp only[z1,z2]
       exact fine_g4 hG hv ho hx hlen hsay hw hat en es h26 hb eg hj hy (by omega) ⟨hy1,hy2⟩
  ·rw[show(x.b==0)=false by simp[hb]]
   exact fine_b1 hG hv ho hx hlen hsay hw hat en es hb h26
theorem PgAt.rise {w W:World} {p:Cp} {n m:Nat} {fa ga:Option Addr} {xs:List (Cf×Fv)} (h:PgAt w p n m fa ga xs) (hb:Below w.heap.size w W):PgAt W p n m fa ga xs:=
 ⟨h.fn,h.gn,h.fs,(h.fr.keep hb.block).more hb.size,(h.gr.keep hb.block).more hb.size,fun x hx=>(h.ls x hx).up hb⟩
theorem PgAt.lies {w:World} {p:Cp} {n m fc gc:Nat} {fa ga:Option Addr} {xs:List (Cf×Fv)} (h:PgAt w p n m fa ga xs) (h1:n≤fc) (h2:m≤gc):LiesC w w.heap.size p (.agg #[.slice fa n fc,.slice ga m gc]):=
 ⟨fa,fc,ga,gc,xs,h.fs,by rw[h.fn,h.gn],h.fr,h.gr,by rw[h.fn];exact h1,by rw[h.gn];exact h2,h.ls⟩
structure Tame (p:Cp):Prop where
 ok:CpOk p
 names:∀f∈p.funcs,f.name.size≤4000000000
 texts:∀f∈p.funcs,∀x∈f.code,x.text.size≤4000000000
 sum:manySum p.funcs≤4000000000000
theorem sum_mem:∀(l:List Cf) (f:Cf),f∈l→(f.code.length:Int)≤manySum l
 |g::r,f,h=>by
  rw[manySum]
  have:=manySum_pos r
  rcases List.mem_cons.1 h with rfl|h
  ·omega
  ·have:=sum_mem r f h;omega
theorem headsFrom_cons (fs:List Cf) (i:Nat) (f:Cf) (r:List Cf) (old:List (List UInt8)):headsFrom fs i (f::r) old=if headedB fs i f old then headsFrom fs (i+1) r (nextOld i f old) else some i:=rfl
theorem fitsFrom_cons (i:Nat) (f:Cf) (r:List Cf):fitsFrom i (f::r)=match fitsP f.code with
  |some k=>some ⟨130,i,some k⟩
  |none=>fitsFrom (i+1) r:=rfl
theorem codesFrom_cons (p:Cp) (i:Nat) (f:Cf) (r:List Cf):codesFrom p i (f::r)=if f.code=[] then some ⟨130,i,none⟩ else match fineFrom p i f.code 0 f.code with
  |some k=>some ⟨130,i,some k⟩
  |none=>codesFrom p (i+1) r:=rfl
theorem fineFrom_cons (p:Cp) (f:Nat) (code:List Ci) (k:Nat) (x:Ci) (r:List Ci):fineFrom p f code k (x::r)=if fineB p f code k x then fineFrom p f code (k+1) r else some k:=rfl
theorem nextOld_len (i:Nat) (f:Cf) (old:List (List UInt8)):(nextOld i f old).length≤old.length+1:=by
 unfold nextOld
 split
 ·simp
 ·omega
theorem round_bd {code:List Ci} {c:Cst} {k:Nat} (hk:k<code.length) (hfit:∀(k:Nat) (x:Ci),code[k]? =some x→FitI code k x) {e:Int} (h:(roundP code c k).1=some e):0≤e∧e≤code.length:=by
 unfold roundP at h
 split at h
 ·rename_i x s hx hs
  split at h
  ·injection h with h;omega
  ·rename_i nx th _
   dsimp only at h
   generalize (if x.op=34∨x.op=50 then(c,true) else handP c (k+1) nx)=h1 at h
   by_cases e1:h1.2=false
   ·rw[if_pos e1] at h
    injection h with h;omega
   ·rw[if_neg e1] at h
    by_cases hg:goesB x.op=true
    ·obtain⟨g1,g2⟩:=(hfit k x hx).goes hg
     rw[if_pos hg] at h
     generalize handP h1.1 x.a.toNat th=h2 at h
     by_cases e2:h2.2=false
     ·rw[if_pos e2] at h
      injection h with h
      omega
     ·rw[if_neg e2] at h
      cases h
    ·rw[if_neg hg,if_neg (by simp)] at h
     cases h
 ·cases h
theorem loop_bd {code:List Ci} (hfit:∀(k:Nat) (x:Ci),code[k]? =some x→FitI code k x) {e:Int}:∀(fu:Nat) (c:Cst),Inv code c→fitsLoop code fu c=some e→0≤e∧e≤code.length
 |0,_,_,h=>by cases h
 |fu+1,c,hI,h=>by
  rw[fitsLoop] at h
  split at h
  ·cases h
  ·rename_i hne
   obtain⟨k,hk,hkl,s,hs⟩:=pop_at hI hne
   split at h
   ·exact loop_bd hfit fu _ (hI.pop hne).1 h
   ·rename_i hsn
    rw[hk] at h hsn
    simp only[Int.toNat_natCast] at h hsn
    have hI2:=((hI.pop hne).1.look (k:=k) hkl (by simpa using hsn)).1
    split at h
    ·rename_i e' c' hr
     injection h with h
     subst h
     exact round_bd hkl hfit (by rw[hr])
    ·rename_i c' hr
     have:=hI2.round hfit k
     simp only at this
     rw[hr] at this
     exact loop_bd hfit fu _ (this rfl).1 h
theorem fits_bd {code:List Ci} (h0:0<code.length) (hfit:∀(k:Nat) (x:Ci),code[k]? =some x→FitI code k x) {e:Int} (h:fitsP code=some e):0≤e∧e≤code.length:=
 loop_bd hfit _ _ (Inv.begin code h0).1 h
theorem numb22 {p:Cp} {f:Nat} {o:Cf} (ho:p.funcs[f]? =some o) {x:Ci} (hn:numberedB p f x=true) (h:(formOf x.op).text=22):0≤x.a∧x.a≤1000000:=by
 have hop:x.op=29:=by
  rcases Decidable.em (1≤x.op∧x.op≤53) with hr|hr
  ·obtain⟨k,hk⟩:=Int.eq_ofNat_of_zero_le (show 0≤x.op by omega)
   have key:∀k:Fin 54,(formOf (k.val:Int)).text=22→k.val=29:=by decide+kernel
   have:=key ⟨k,by omega⟩ (by rw[hk] at h;exact h)
   simp only at this
   omega
  ·rw[formOf,if_neg hr] at h
   cases h
 rw[numb_eq ho,hop,show(formOf 29).a=8 from rfl] at hn
 have:0≤x.a∧x.a<31:=by simpa[numbE] using hn
 omega
theorem Tame.says {p:Cp} (h:Tame p) {f:Nat} {o:Cf} (ho:p.funcs[f]? =some o) {k:Nat} {x:Ci} (hx:o.code[k]? =some x) (hn:numberedB p f x=true):SaysOk x:=
 says_any x ⟨h.texts o (List.mem_of_getElem? ho) x (List.mem_of_getElem? hx),fun h22=>numb22 ho hn h22⟩
theorem fit_counted {code:List Ci} {k:Nat} {x:Ci} (h:FitI code k x):CountedOk x:=by
 by_cases h26:x.op=26
 ·obtain⟨h1,h2⟩:=h.slice h26
  exact counted_slice x h26 (by omega) h2
 ·exact counted_any x h.count h26
theorem codes_fit {p:Cp} (h:codesFrom p 0 p.funcs=none) {i:Nat} {f:Cf} (hf:p.funcs[i]? =some f):0<f.code.length∧(∀(k:Nat) (x:Ci),f.code[k]? =some x→FitI f.code k x)∧∀x∈f.code,CountedOk x:=by
 obtain⟨h1,h2⟩:=codes_at p.funcs 0 h i f hf
 have hfit:∀(k:Nat) (x:Ci),f.code[k]? =some x→FitI f.code k x:=fun k x hx=>by
  have:=fine_at f.code 0 h2 k x hx
  rw[Nat.zero_add,Nat.zero_add] at this
  exact fine_fit hf this
 refine⟨List.length_pos_iff.2 h1,hfit,fun x hx=> ?_⟩
 obtain⟨k,hk⟩:=List.mem_iff_getElem?.1 hx
 exact fit_counted (hfit k x hk)
theorem right_many {p:Cp}:rightC p=match manyC p with
  |some i=>some ⟨22,i,none⟩
  |none=>if !globalsB [] (p.globals.map fun s=>s.data.toList) then some ⟨130,0,none⟩ else match headsFrom p.funcs 0 p.funcs [] with
   |some i=>some ⟨130,i,none⟩
   |none=>match codesFrom p 0 p.funcs with
    |some w=>some w
    |none=>fitsFrom 0 p.funcs:=by
 unfold rightC manyC
 split
 ·rfl
 ·cases manyFrom p.funcs 0<;>rfl
theorem many_len {p:Cp} (h:manyC p=none) (hs:manySum p.funcs≤4000000000000):p.funcs.length≤20000∧manySum p.funcs≤60000:=by
 have:=manySum_pos p.funcs
 unfold manyC at h
 rw[show IntKind.i64.wrap (manySum p.funcs)=manySum p.funcs by rw[IntKind.wrap_i64];omega] at h
 split at h
 ·cases h
 ·omega
theorem RightPost.wrong {w wr w':World} {c a:Int} {i:Option Int} {b:Nat} (hb:Below w.heap.size w wr) (h1:Below wr.heap.size wr w') (hl:wr.heap.size≤b) (hw:WrAt w' b c a i):RightPost w (some ⟨c,a,i⟩) (.returned (.iface 61 (.pointer (some ⟨b,0,none⟩)))) w':=
 ⟨hb.trans (h1.mono hb.size),b,rfl,Nat.le_trans hb.size hl,hw⟩
theorem WrongPost.out {w:World} {c a:Int} {i:Option Int} {e:Ending} {w':World} (h:WrongPost w c a i e w'):∃b,e= .returned (.pointer (some ⟨b,0,none⟩))∧Below w.heap.size w w'∧w.heap.size≤b∧WrAt w' b c a i:=by
 obtain⟨h1,b,h2,h3,h4⟩:=h
 exact⟨b,h2,h1,h3,h4⟩
theorem right_all {p:Cp} {n m fc gc:Nat} {fa ga:Option Addr} {xs:List (Cf×Fv)} {w:World} (hp:PgAt w p n m fa ga xs) (h1:n≤fc) (h2:m≤gc) (ht:Tame p) (hG:Gc w):
  Calls Tryz.prog 13 #[.agg #[.slice fa n fc,.slice ga m gc]] w (RightPost w (rightC p)):=by
 obtain⟨R,HR⟩:∃R,Hid (rightC p=R):=⟨_,rfl⟩
 rw[HR.out]
 have HE:=Lib.hid ((right_many (p:=p)).symm.trans HR.out)
 have HPG:=Lib.hid hp
 have HT:=Lib.hid ht
 have HGc:=Lib.hid hG
 have hnl:=hp.fn
 have hml:=hp.gn
 have HN:=Lib.hid hnl
 have HM:=Lib.hid hml
 have hn:n≤140737488351232:=hnl▸ht.ok.1
 have hm2:m≤140737488351232:=hml▸ht.ok.2.1
 have h13:=hG.size
 have HMA:Hid (∀W,Below w.heap.size w W→Calls Tryz.prog 28 #[.agg #[.slice fa n fc,.slice ga m gc]] W (ManyPost W (manyC p))):=Lib.hid fun W hW=>codeMany_any (hp.rise hW) ht.ok ht.sum
 have HGL:Hid (∀W,Below w.heap.size w W→Calls Tryz.prog 29 #[.slice ga m gc] W fun e w'=>e= .returned (.bool (globalsB [] (p.globals.map fun s=>s.data.toList)))∧Below W.heap.size W w'):=Lib.hid fun W hW=>by
  have:=globals_any p.globals ga gc W (hG.up hW) (hp.rise hW).gr ht.ok.2.1 ht.ok.2.2.2
  rw[hml] at this
  exact this
 have HHD:Hid (∀(W:World) (i b k:Nat) (old:List (List UInt8)) (f:Cf),Below w.heap.size w W→w.heap.size≤b→CntAt W b k old→k≤100000000000000→old.length≤100000000000000→p.funcs[i]? =some f→Calls Tryz.prog 31 #[.agg #[.slice fa n fc,.slice ga m gc],.int .i64 i,.map (some b)] W (HeadPost w W b k (headedB p.funcs i f old) (nextOld i f old))):=
  Lib.hid fun W i b k old f hW hb hc hk ho hf=>headed_any hp ht.ok (ht.names f (List.mem_of_getElem? hf)) hW (hG.up hW) h13 hb hc hk ho hf
 have HLV:Hid (∀(W:World),Below w.heap.size w W→LiesC W W.heap.size p (.agg #[.slice fa n fc,.slice ga m gc])):=Lib.hid fun W hW=>(hp.rise hW).lies h1 h2
 have HFN:Hid (∀(W:World),Below w.heap.size w W→∀i f,p.funcs[i]? =some f→∃g q fv,fa=some ⟨g,q,none⟩∧LiesF w w.heap.size (f,fv)∧HeadAt W g q i n f.name f.params f.slots f.around fv.ta f.taken.length fv.tc fv.ca f.code.length fv.cc):=Lib.hid fun W hW i f hf=>headAt_of hp hW hf
 have hm:=mapNew
 clear hp ht hG hnl hml h1 h2
 have HB0:Hid (Below w.heap.size w (w.alloc (.cells #[.slice fa n fc,.slice ga m gc] 25 (0,0)))):=Lib.hid ((Below.refl _ _).alloc (Nat.le_refl _) _)
 have HP0:=Lib.hid (heap_alloc_new w (.cells #[.slice fa n fc,.slice ga m gc] 25 (0,0)))
 go_enter Tryz.func13,Tryz.ntmps13
 cases hM:manyC p with
 |some i0=>
  rw[hM] at HMA HE
  have hR:R=some ⟨22,i0,none⟩:=HE.out.symm
  subst hR
  clear hM
  go_wp2_with (go_at_call 28;refine(HMA.out _ HB0.out).mono ?_;intro e w1 hpost;obtain⟨b,rfl,hb1,hl1,hw1⟩:=WrongPost.out hpost;clear hpost)
  go_ret
  exact RightPost.wrong HB0.out hb1 hl1 hw1
 |none=>
 have hlen:=many_len hM HT.out.sum
 rw[HN.out] at hlen
 obtain⟨hn2,hsum⟩:=hlen
 have HSUM:=Lib.hid hsum
 rw[hM] at HMA HE
 clear hM hsum
 cases hGB:globalsB [] (p.globals.map fun s=>s.data.toList) with
 |false=>
  rw[hGB] at HGL HE
  have hR:R=some ⟨130,0,none⟩:=HE.out.symm
  subst hR
  clear hGB
  go_wp2_with (first
   |(go_at_call 28;refine(HMA.out _ HB0.out).mono ?_;rintro e w1 ⟨rfl,hb1⟩;have hB1:=HB0.out.trans (hb1.mono HB0.out.size);have hP1:=(hb1.block _ (Array.getElem?_eq_some_iff.1 HP0.out).1).trans HP0.out;have p1:=cell_of_row w1 _ 1 _ _ _ hP1;simp only[gq] at p1;have HB1:=Lib.hid hB1;clear hB1 hP1 hb1)
   |(go_at_call 29;refine(HGL.out _ HB1.out).mono ?_;rintro e w2 ⟨rfl,hb2⟩;have HB2:=Lib.hid (HB1.out.trans (hb2.mono HB1.out.size));clear hb2)
   |(go_at_call 30;refine(wrong_none 130 0 _).mono ?_;intro e w3 hpost;obtain⟨b,rfl,hb3,hl3,hw3⟩:=WrongPost.out hpost;clear hpost))
  go_ret
  exact RightPost.wrong HB2.out hb3 hl3 hw3
 |true=>
 rw[hGB] at HGL HE
 clear hGB
 have HE2:Hid ((match headsFrom p.funcs 0 p.funcs [] with
   |some i=>some ⟨130,i,none⟩
   |none=>match codesFrom p 0 p.funcs with
    |some w=>some w
    |none=>fitsFrom 0 p.funcs:Option Cwr)=R):=Lib.hid HE.out
 obtain⟨RH,HRH⟩:∃RH,Hid (headsFrom p.funcs 0 p.funcs []=RH):=⟨_,rfl⟩
 rw[HRH.out] at HE2
 clear HE
 go_wp2_with (first
  |(go_at_call 28;refine(HMA.out _ HB0.out).mono ?_;rintro e w1 ⟨rfl,hb1⟩;have hB1:=HB0.out.trans (hb1.mono HB0.out.size);have hP1:=(hb1.block _ (Array.getElem?_eq_some_iff.1 HP0.out).1).trans HP0.out;have p1:=cell_of_row w1 _ 1 _ _ _ hP1;simp only[gq] at p1;have HB1:=Lib.hid hB1;have HP1:=Lib.hid hP1;clear hB1 hP1 hb1)
  |(go_at_call 29;refine(HGL.out _ HB1.out).mono ?_;rintro e w2 ⟨rfl,hb2⟩;have hB2:=HB1.out.trans (hb2.mono HB1.out.size);have hP2:=(hb2.block _ (Array.getElem?_eq_some_iff.1 HP1.out).1).trans HP1.out;have hP3:=(heap_alloc_old w2 (.map #[] 0) (Array.getElem?_eq_some_iff.1 hP2).1).trans hP2;have q0:=cell_of_row _ _ 0 _ _ _ hP3;simp only[gq] at q0;have HB2:=Lib.hid hB2;have HP2:=Lib.hid hP2;clear hB2 hP2 hb2))
 have HB3:Hid (Below w.heap.size w (w2.alloc (.map #[] 0))):=Lib.hid (HB2.out.alloc HB2.out.size _)
 have HP3:Hid ((w2.alloc (.map #[] 0)).heap[w.heap.size]? =some (.cells #[.slice fa n fc,.slice ga m gc] 25 (0,0))):=Lib.hid ((heap_alloc_old _ _ (Array.getElem?_eq_some_iff.1 HP2.out).1).trans HP2.out)
 have HC3:=Lib.hid (CntAt.made w2)
 have hmb:w.heap.size<w2.heap.size:=(Array.getElem?_eq_some_iff.1 HP2.out).1
 obtain⟨mb,hmb2⟩:∃mb,w2.heap.size=mb:=⟨_,rfl⟩
 rw[hmb2] at HC3 hmb
 rw[hmb2]
 clear hmb2 p1 q0 hP3
 go_loopw [28] (fun i wr=>Hid (Below w.heap.size w wr)∧Hid (wr.heap[w.heap.size]? =some (.cells #[.slice fa n fc,.slice ga m gc] 25 (0,0)))∧∃j:Nat,j≤n∧i= .int .i64 j∧∃old:List (List UInt8),old.length≤j∧Hid (CntAt wr mb j old)∧Hid (headsFrom p.funcs j (p.funcs.drop j) old=RH)) (fun i _=>n-(intOf i).toNat)
 case atStart=>exact⟨HB3,HP3,0,Nat.zero_le _,rfl,[],Nat.le_refl _,HC3,HRH⟩
 case round=>
  clear HB3 HP3 HC3
  obtain⟨HB,HP,j,hj,rfl,old,hol,HC,HI⟩:=hrel
  obtain⟨q0,q1⟩:=cr2 wr _ HP.out
  simp only[gq] at q0 q1
  by_cases hlt:j<n
  ·obtain⟨f,hf⟩:∃f,p.funcs[j]? =some f:=⟨_,List.getElem?_eq_getElem (by rw[HN.out];exact hlt)⟩
   have HF:=Lib.hid (HHD.out wr j mb j old f HB.out (Nat.le_of_lt hmb) HC.out (by omega) (by omega) hf)
   have hq:=HI.out
   rw[drop_cons hf,headsFrom_cons] at hq
   have hnx:=nextOld_len j f old
   clear hf
   cases hh:headedB p.funcs j f old with
   |true=>
    rw[hh] at HF hq
    have HQ:=Lib.hid hq
    clear hh hq
    go_wp2_with (go_at_call 31;refine HF.out.mono ?_;rintro e w4 ⟨rfl,hb4,hc4,hk4⟩;have HB4:=Lib.hid hb4;have HC4:=Lib.hid (hc4 rfl);have HP4:=Lib.hid ((hk4 _ (Array.getElem?_eq_some_iff.1 HP.out).1 (by omega)).trans HP.out);clear hb4 hc4 hk4)
    go_roundw
    case rel=>exact⟨HB4,HP4,j+1,by omega,by go_num,_,by omega,HC4,HQ⟩
    case measure=>simp[intOf];omega
   |false=>
    rw[hh] at HF hq
    have hR:R=some ⟨130,j,none⟩:=by
     rw[if_neg (by simp)] at hq
     have:=HE2.out
     rw[←hq] at this
     exact this.symm
    subst hR
    clear hh hq HI HRH HE2
    go_wp2_with (first
     |(go_at_call 31;refine HF.out.mono ?_;rintro e w4 ⟨rfl,hb4,hc4,hk4⟩;have HB4:=Lib.hid hb4;clear hb4 hc4 hk4)
     |(go_at_call 30;refine(wrong_none 130 j _).mono ?_;intro e w3 hpost;obtain⟨b,rfl,hb3,hl3,hw3⟩:=WrongPost.out hpost;clear hpost))
    go_ret
    exact RightPost.wrong HB4.out hb3 hl3 hw3
  ·obtain rfl:j=n:=by omega
   have hRH:RH=none:=by
    rw[←HI.out,List.drop_of_length_le (by rw[HN.out];exact Nat.le_refl _)]
    rfl
   subst hRH
   have HE3:Hid ((match codesFrom p 0 p.funcs with
    |some w=>some w
    |none=>fitsFrom 0 p.funcs:Option Cwr)=R):=Lib.hid HE2.out
   obtain⟨RC,HRC⟩:∃RC,Hid (codesFrom p 0 p.funcs=RC):=⟨_,rfl⟩
   rw[HRC.out] at HE3
   clear HI HRH HE2 HC hol
   go_wp2_with fail
   clear q0 q1
   go_loopw [43] (fun i wr=>Hid (Below w.heap.size w wr)∧Hid (wr.heap[w.heap.size]? =some (.cells #[.slice fa j fc,.slice ga m gc] 25 (0,0)))∧∃q:Nat,q≤j∧i= .int .i64 q∧Hid (codesFrom p q (p.funcs.drop q)=RC)) (fun i _=>j-(intOf i).toNat)
   case atStart=>exact⟨HB,HP,0,Nat.zero_le _,rfl,HRC⟩
   case round=>
    clear HB HP
    obtain⟨HB,HP,q,hq,rfl,HI⟩:=hrel
    obtain⟨q0,q1⟩:=cr2 wr _ HP.out
    simp only[gq] at q0 q1
    by_cases hlt:q<j
    ·obtain⟨f,hf⟩:∃f,p.funcs[q]? =some f:=⟨_,List.getElem?_eq_getElem (by rw[HN.out];exact hlt)⟩
     obtain⟨g,off,fv,rfl,_,hA⟩:=HFN.out wr HB.out q f hf
     have HF:=Lib.hid hf
     have hi:=HI.out
     rw[drop_cons hf,codesFrom_cons] at hi
     have hcl:(f.code.length:Int)≤60000:=Int.le_trans (sum_mem p.funcs f (List.mem_of_getElem? hf)) HSUM.out
     obtain⟨cn,hcn⟩:∃cn,f.code.length=cn:=⟨_,rfl⟩
     have HCN:=Lib.hid hcn
     obtain⟨tn,htn⟩:∃tn,f.taken.length=tn:=⟨_,rfl⟩
     rw[hcn,htn] at hA
     rw[hcn] at hcl
     have hg:=hA.lt
     have x0:=hA.x0
     have x1:=hA.x1
     have x2:=hA.x2
     have x3:=hA.x3
     have x4:=hA.x4
     have x5:=hA.x5
     clear hA hf hcn htn
     by_cases hne:cn=0
     ·subst hne
      have hR:R=some ⟨130,q,none⟩:=by
       rw[if_pos (List.length_eq_zero_iff.1 HCN.out)] at hi
       have:=HE3.out
       rw[←hi] at this
       exact this.symm
      subst hR
      clear hi HI HRC HE3 hcl
      have HB4:Hid (∀o,Below w.heap.size w (wr.alloc o)):=Lib.hid fun o=>HB.out.alloc HB.out.size _
      go_wp2_with (go_at_call 30;refine(wrong_none 130 q _).mono ?_;intro e w3 hpost;obtain⟨b,rfl,hb3,hl3,hw3⟩:=WrongPost.out hpost;clear hpost)
      go_ret
      exact RightPost.wrong (HB4.out _) hb3 hl3 hw3
     ·rw[if_neg (fun e=>hne (by rw[←HCN.out,e];rfl))] at hi
      have HI2:=Lib.hid hi
      have dn:((cn:Int)==0)=false:=by simp;omega
      clear hi HI
      obtain⟨RF,HRF⟩:∃RF,Hid (fineFrom p q f.code 0 f.code=RF):=⟨_,rfl⟩
      rw[HRF.out] at HI2
      go_wp2_with fail
      have HB5:Hid (Below w.heap.size w (wr.alloc (.cells #[.string f.name,.int .i64 f.params,.int .i64 f.slots,.slice fv.ta tn fv.tc,.int .i64 f.around,.slice fv.ca cn fv.cc] 43 (0,0)))):=Lib.hid (HB.out.alloc HB.out.size _)
      have HP5:Hid ((wr.alloc (.cells #[.string f.name,.int .i64 f.params,.int .i64 f.slots,.slice fv.ta tn fv.tc,.int .i64 f.around,.slice fv.ca cn fv.cc] 43 (0,0))).heap[w.heap.size]? =some (.cells #[.slice (some ⟨g,off,none⟩) j fc,.slice ga m gc] 25 (0,0))):=Lib.hid ((heap_alloc_old _ _ (Array.getElem?_eq_some_iff.1 HP.out).1).trans HP.out)
      go_loopw [58] (fun i wr=>Hid (Below w.heap.size w wr)∧Hid (wr.heap[w.heap.size]? =some (.cells #[.slice (some ⟨g,off,none⟩) j fc,.slice ga m gc] 25 (0,0)))∧∃k:Nat,i= .int .i64 k∧k≤cn∧Hid (fineFrom p q f.code k (f.code.drop k)=RF)) (fun i _=>cn-(intOf i).toNat)
      case atStart=>exact⟨HB5,HP5,0,rfl,Nat.zero_le _,HRF⟩
      case round=>
       clear HB HP HB5 HP5 q0 q1 x0 x1 x2 x3 x4 x5 dn
       obtain⟨HB,HP,k,rfl,hk,HK⟩:=hrel
       obtain⟨q0,q1⟩:=cr2 wr _ HP.out
       simp only[gq] at q0 q1
       by_cases hlt2:k<cn
       ·obtain⟨x,hx⟩:∃x,f.code[k]? =some x:=⟨_,List.getElem?_eq_getElem (by rw[HCN.out];exact hlt2)⟩
        have hq2:=HK.out
        rw[drop_cons hx,fineFrom_cons] at hq2
        have HFI:=Lib.hid (fine_any (HGc.out.up HB.out) (HLV.out _ HB.out) HF.out hx (by rw[HCN.out];omega) (fun h=>HT.out.says HF.out hx h))
        clear hx
        cases hfb:fineB p q f.code k x with
        |true=>
         rw[hfb] at HFI hq2
         have HK2:=Lib.hid hq2
         clear hfb hq2
         go_wp2_with (go_at_call 32;refine HFI.out.mono ?_;rintro e w4 ⟨rfl,hb4⟩;have HB4:=Lib.hid (HB.out.trans (hb4.mono HB.out.size));have HP4:=Lib.hid ((hb4.block _ (Array.getElem?_eq_some_iff.1 HP.out).1).trans HP.out);clear hb4)
         go_roundw
         case rel=>exact⟨HB4,HP4,k+1,by go_num,by omega,HK2⟩
         case measure=>simp[intOf];omega
        |false=>
         rw[hfb] at HFI hq2
         have hR:R=some ⟨130,q,some k⟩:=by
          rw[if_neg (by simp)] at hq2
          have h3:=HI2.out
          rw[←hq2] at h3
          have:=HE3.out
          rw[←h3] at this
          exact this.symm
         subst hR
         clear hfb hq2 HI2 HRF HRC HE3 HK
         go_wp2_with (first
          |(go_at_call 32;refine HFI.out.mono ?_;rintro e w4 ⟨rfl,hb4⟩;have HB4:=Lib.hid (HB.out.trans (hb4.mono HB.out.size));clear hb4)
          |(go_at_call 30;refine(wrong_some 130 q k (by omega) _ (HGc.out.up HB4.out)).mono ?_;intro e w3 hpost;obtain⟨b,rfl,hb3,hl3,hw3⟩:=WrongPost.out hpost;clear hpost))
         go_ret
         exact RightPost.wrong HB4.out hb3 hl3 hw3
       ·obtain rfl:k=cn:=by omega
        have hRF:RF=none:=by
         rw[←HK.out,List.drop_of_length_le (by rw[HCN.out];exact Nat.le_refl _)]
         rfl
        subst hRF
        have HI3:Hid (codesFrom p (q+1) (p.funcs.drop (q+1))=RC):=Lib.hid HI2.out
        go_wp2_with fail
        go_roundw
        case rel=>exact⟨HB,HP,q+1,by omega,by go_num,HI3⟩
        case measure=>simp[intOf];omega
    ·obtain rfl:q=j:=by omega
     have hRC:RC=none:=by
      rw[←HI.out,List.drop_of_length_le (by rw[HN.out];exact Nat.le_refl _)]
      rfl
     subst hRC
     have HE4:Hid (fitsFrom 0 p.funcs=R):=Lib.hid HE3.out
     clear HI HE3
     go_wp2_with fail
     clear q0 q1
     go_loopw [75] (fun i wr=>Hid (Below w.heap.size w wr)∧∃k:Nat,k≤q∧i= .int .i64 k∧Hid (fitsFrom k (p.funcs.drop k)=R)) (fun i _=>q-(intOf i).toNat)
     case atStart=>exact⟨HB,0,Nat.zero_le _,rfl,HE4⟩
     case round=>
      clear HB HP
      obtain⟨HB,k,hk,rfl,HI⟩:=hrel
      by_cases hlt:k<q
      ·obtain⟨f,hf⟩:∃f,p.funcs[k]? =some f:=⟨_,List.getElem?_eq_getElem (by rw[HN.out];exact hlt)⟩
       obtain⟨g,off,fv,rfl,hl,hA⟩:=HFN.out wr HB.out k f hf
       have hi:=HI.out
       rw[drop_cons hf,fitsFrom_cons] at hi
       have hcl:(f.code.length:Int)≤60000:=Int.le_trans (sum_mem p.funcs f (List.mem_of_getElem? hf)) HSUM.out
       obtain⟨c1,c2,c3⟩:=codes_fit HRC.out hf
       have HBD:Hid (∀e,fitsP f.code=some e→0≤e∧e≤60000):=Lib.hid fun e he=>by have:=fits_bd c1 c2 he;omega
       have HFI:Hid (∀W,Below w.heap.size w W→Calls Tryz.prog 33 #[fnV (f,fv)] W fun e w'=>e= .returned (.int .i64 (fitsR (fitsP f.code)))∧Below W.heap.size W w'):=
        Lib.hid fun W hW=>fits_any ((hl.2.1.keep hW.block).more hW.size) c1 (by omega) c2 c3
       have hg:=hA.lt
       have x0:=hA.x0
       have x1:=hA.x1
       have x2:=hA.x2
       have x3:=hA.x3
       have x4:=hA.x4
       have x5:=hA.x5
       simp only[fnV] at HFI
       have HB4:Hid (∀o,Below w.heap.size w (wr.alloc o)):=Lib.hid fun o=>HB.out.alloc HB.out.size _
       clear hA hf hl c1 c2 c3 hcl
       cases hfp:fitsP f.code with
       |none=>
        rw[hfp] at HFI hi
        have HI2:=Lib.hid hi
        clear hfp hi
        have d:decide ((0:Int)≤-1)=false:=rfl
        go_wp2_with (go_at_call 33;refine(HFI.out _ (HB4.out _)).mono ?_;rintro e w4 ⟨rfl,hb4⟩;have HB5:=Lib.hid ((HB4.out _).trans (hb4.mono (HB4.out _).size));clear hb4;simp only[fitsR])
        go_roundw
        case rel=>exact⟨HB5,k+1,by omega,by go_num,HI2⟩
        case measure=>simp[intOf];omega
       |some z=>
        obtain⟨hz0,hz1⟩:=HBD.out z hfp
        obtain⟨jz,rfl⟩:=Int.eq_ofNat_of_zero_le hz0
        rw[hfp] at HFI hi
        have hR:R=some ⟨130,k,some (jz:Int)⟩:=hi.symm
        subst hR
        have d:decide ((0:Int)≤(jz:Int))=true:=by simp
        clear hfp hi HI HE4 HBD
        go_wp2_with (first
         |(go_at_call 33;refine(HFI.out _ (HB4.out _)).mono ?_;rintro e w4 ⟨rfl,hb4⟩;have HB5:=Lib.hid ((HB4.out _).trans (hb4.mono (HB4.out _).size));clear hb4;simp only[fitsR])
         |(go_at_call 30;refine(wrong_some 130 k jz (by omega) _ (HGc.out.up HB5.out)).mono ?_;intro e w3 hpost;obtain⟨b,rfl,hb3,hl3,hw3⟩:=WrongPost.out hpost;clear hpost))
        go_ret
        exact RightPost.wrong HB5.out hb3 hl3 hw3
      ·obtain rfl:k=q:=by omega
       have hR:R=none:=by
        rw[←HI.out,List.drop_of_length_le (by rw[HN.out];exact Nat.le_refl _)]
        rfl
       subst hR
       go_wp2_with fail
       go_ret
       exact⟨HB.out,rfl⟩
end Go.Proofs.YtdjbkppdppdcgaaGreatDoor
