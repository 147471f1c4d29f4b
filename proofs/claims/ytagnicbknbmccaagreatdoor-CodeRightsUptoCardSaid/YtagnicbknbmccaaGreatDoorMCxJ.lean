/- code.words; (*strings.Builder).WriteString as this cut has it. code.digits of any text, code.operation of any word, code.ints of numbers as List writes them. code.List of a plain program of one function, without texts. -/
import Derived.Lib.Builder
import Derived.Lib.ItoaLen
import Derived.Lib.ParseIntBTie
import Derived.Lib.AtoiErrMem
import Derived.Deep.AppendLies
import Derived.Test.YtagnicbknbmccaaGreatDoorShelf
import Derived.Test.YtagnicbknbmccaaGreatDoorMCxD
import Derived.Test.YtagnicbknbmccaaGreatDoorMCwG
import Derived.Test.YtagnicbknbmccaaGreatDoorMScanA
import Derived.Test.YtagnicbknbmccaaGreatDoorMCwH
import Derived.Test.YtagnicbknbmccaaGreatDoorMCyA
import Derived.Test.YtagnicbknbmccaaGreatDoorMCyD
import Derived.Test.YtagnicbknbmccaaGreatDoorMCwF
import Derived.Test.YtagnicbknbmccaaGreatDoorSqC
set_option maxRecDepth 100000
set_option maxHeartbeats 40000000
namespace Go.Proofs.YtagnicbknbmccaaGreatDoor
open Go.RowKit
theorem Gc.tab {w:World} (h:Gc w):Lib.TabIs Tryz.prog w "internal/strconv.uint64pow10" .u64 Lib.pow10Tab:=h.pow
theorem cat_blank (t r:List UInt8):Value.string (⟨⟨t⟩⟩++(⟨#[32]⟩++⟨r.toArray⟩))= .string ⟨⟨t++32::r⟩⟩:=by
 congr 1
theorem words_step (t:List UInt8) (n:Int) (l:List Int):wordsL t (n::l)=wordsL (t++32::Lib.itoa n) l:=by simp[wordsL]
theorem words_nil (t:List UInt8):wordsL t []=t:=by simp[wordsL]
theorem words_any {w:World} (hG:Gc w) (s:List UInt8) {A:Option Addr} {l:List Int} {cap m:Nat} (hm:l.length=m) (hr:RowIs w w.heap.size A (l.map (Value.int .i64))) (hok:∀n∈l,okI n) (hlen:s.length+22*m≤1000000000):
  Calls Tryz.prog 43 #[.string ⟨⟨s⟩⟩,.slice A m cap] w fun e w'=>e= .returned (.string ⟨⟨wordsL s l⟩⟩)∧Below w.heap.size w w':=by
 obtain⟨T,HT⟩:∃T,Hid (wordsL s l=T):=⟨_,rfl⟩
 rw[HT.out]
 have HGc:=Lib.hid hG
 have HR:=Lib.hid hr
 have HOK:=Lib.hid hok
 have HM:=Lib.hid hm
 clear hG hr hok hm
 go_enter Tryz.func43,Tryz.ntmps43
 go_wp2_with fail
 go_loopw [0,9] (fun v i wr=>∃(j:Nat) (t:List UInt8),i= .int .i64 j∧j≤m∧v= .string ⟨⟨t⟩⟩∧t.length≤s.length+22*j∧Hid (Below w.heap.size w wr)∧Hid (wordsL t (l.drop j)=T)) (fun _ i _=>m-(intOf i).toNat)
 case atStart=>exact⟨0,s,rfl,Nat.zero_le _,rfl,by omega,Lib.hid (Below.refl _ _),HT⟩
 case round=>
  obtain⟨j,t,rfl,hj,rfl,htl,HB,HQ⟩:=hrel
  by_cases hlt:j<m
  ·obtain⟨x,hx⟩:∃x,l[j]? =some x:=⟨_,List.getElem?_eq_getElem (by rw[HM.out];exact hlt)⟩
   have hxk:=HOK.out x (List.mem_of_getElem? hx)
   obtain⟨g,o,rfl,hg,hc⟩:=HR.out.at (by rw[List.length_map,HM.out];omega)
   have cx:=hc j (.int .i64 x) (by simp[hx])
   rw[←HB.out.cell (p:=⟨g,o+j,none⟩) hg] at cx
   have hq:=HQ.out
   rw[drop_cons hx,words_step] at hq
   have HQ2:=Lib.hid hq
   have HTB:=Lib.hid (HGc.out.up HB.out).pow
   obtain⟨hx0,hx1⟩:=hxk
   have hil:=Lib.itoa_length_le x hx0 hx1
   clear hx hq hc
   go_wp2_with (go_at_call 77;refine(Tryz.strconv_Itoa x hx0 hx1 _ HTB.out).mono ?_;rintro e w1 ⟨rfl,k,os,rfl⟩)
   go_roundw
   case rel=>exact⟨j+1,t++32::Lib.itoa x,by simp,by omega,cat_blank _ _,by simp only[List.length_append,List.length_cons];omega,Lib.hid (HB.out.trans (grow_under.mono HB.out.size)),HQ2⟩
   case measure=>simp[intOf];omega
  ·obtain rfl:j=m:=by omega
   have hq:=HQ.out
   rw[List.drop_of_length_le (by rw[HM.out];exact Nat.le_refl _),words_nil] at hq
   subst hq
   go_wp2_with fail
   go_ret
   exact⟨rfl,HB.out⟩
theorem atoi_low {w w':World} {e:TypeId} (h:w'=w∨∃t,w'=Lib.bytesWorld w e t):Below w.heap.size w w':=by
 rcases h with rfl|⟨t,rfl⟩
 ·exact Below.refl _ _
 ·exact Lib.bytesWorld_below w e t
theorem intOf_beq {s:ByteArray} {v:Int} (h:Lib.parseIntB 64 s.data.toList= .ok v):(Lib.itoa v==s.toList)=(intOfL s.data.toList).isSome:=by
 unfold intOfL
 rw[h]
 simp only
 rw[ByteArray.toList_eq]
 by_cases e:Lib.itoa v=s.data.toList
 ·simp[e]
 ·simp[e]
theorem digits_any {w:World} (hG:Gc w) (s:ByteArray) (hs:s.size≤140737488355328):
  Calls Tryz.prog 121 #[.string s] w fun e w'=>e= .returned (.bool (intOfL s.data.toList).isSome)∧Below w.heap.size w w':=by
 have HG:=Lib.hid hG
 clear hG
 rcases h:Lib.parseIntB 64 s.data.toList with v|_|_
 ·
  obtain⟨h0,h1⟩:=parseI_ok h
  have hq:=intOf_beq h
  obtain⟨R,hR⟩:∃R,(intOfL s.data.toList).isSome=R:=⟨_,rfl⟩
  rw[hR] at hq⊢
  have H:=Lib.hid h
  have HQ:=Lib.hid hq
  clear h hR hq
  go_enter Tryz.func121,Tryz.ntmps121
  go_wp2_with (first
   |(go_at_call 160;refine(Tryz.strconv_ParseInt_10_at64_ok s (by omega) v H.out w).mono ?_;rintro e w1 ⟨rfl,hw⟩;have hb1:=atoi_low hw;clear hw;have HT:=Lib.hid (HG.out.up hb1).tab)
   |(go_at_call 161;refine(Tryz.strconv_FormatInt_10 v h0 h1 _ HT.out).mono ?_;rintro e w2 ⟨rfl,k,os,rfl⟩))
  go_ret
  exact⟨ret_bool HQ.out,hb1.trans (grow_under.mono hb1.size)⟩
 ·
  obtain⟨ev,hv,hev⟩:=HG.out.syn
  have hR:(intOfL s.data.toList).isSome=false:=by unfold intOfL;rw[h];rfl
  rw[hR]
  have H:=Lib.hid (Tryz.strconv_ParseInt_10_at64_syntax s (by omega) h ev w hv hev)
  clear h hv hev hR
  go_enter Tryz.func121,Tryz.ntmps121
  go_wp2_with (go_at_call 160;refine H.out.mono ?_;rintro e w1 ⟨N,rfl,_,_,hb1⟩)
  go_ret
  exact⟨rfl,hb1⟩
 ·
  obtain⟨ev,hv,hev⟩:=HG.out.rng
  have hR:(intOfL s.data.toList).isSome=false:=by unfold intOfL;rw[h];rfl
  rw[hR]
  have H:=Lib.hid (Tryz.strconv_ParseInt_10_at64_range s (by omega) h ev w hv hev)
  clear h hv hev hR
  go_enter Tryz.func121,Tryz.ntmps121
  go_wp2_with (go_at_call 160;refine H.out.mono ?_;rintro e w1 ⟨N,rfl,_,_,hb1⟩)
  go_ret
  exact⟨rfl,hb1⟩
attribute [local go_sem] fieldFm0
theorem operation_any (s:List UInt8) (w:World):
  Calls Tryz.prog 151 #[.string ⟨⟨s⟩⟩] w fun e w'=>e= .returned (.int .i64 (operationL s:Nat))∧Below w.heap.size w w':=by
 obtain⟨R,hR⟩:∃R,operationL s=R:=⟨_,rfl⟩
 rw[hR]
 have HR:Hid (opFrom s (54-1) 1=R):=Lib.hid hR
 clear hR
 go_enter Tryz.func151,Tryz.ntmps151
 go_wp2_with fail
 go_loopw [3] (fun i wr=>∃k:Nat,i= .int .i64 k∧k≤54∧Hid (Below w.heap.size w wr)∧Hid (opFrom s (54-k) k=R)) (fun i _=>54-(intOf i).toNat)
 case atStart=>exact⟨1,rfl,by omega,Lib.hid (Below.refl _ _),HR⟩
 case round=>
  clear HR
  obtain⟨k,rfl,hk,HB,HJ⟩:=hrel
  by_cases hlt:k≤53
  ·have hj:=HJ.out
   rw[show 54-k=(54-(k+1))+1 by omega,opFrom] at hj
   have HF:=Lib.hid (forms_call (k:Int))
   obtain⟨F,hF⟩:∃F,formOf (k:Int)=F:=⟨_,rfl⟩
   rw[hF] at HF hj
   clear hF
   by_cases hq:F.word=s
   ·have e1:(F.word==s)=true:=by rw[hq];simp
    have hR:k=R:=by rw[←hj,hq];simp
    subst hR
    clear hj hq
    go_wp2_with (go_at_call 44;refine(HF.out _).mono ?_;rintro e w1 ⟨rfl,hb1⟩)
    go_ret
    exact⟨rfl,HB.out.trans (hb1.mono HB.out.size)⟩
   ·have e1:(F.word==s)=false:=by
     rw[beq_eq_false_iff_ne]
     exact hq
    have hJ2:Hid (opFrom s (54-(k+1)) (k+1)=R):=by
     rw[if_neg (by simpa using hq)] at hj
     exact hj
    clear hj hq
    go_wp2_with (go_at_call 44;refine(HF.out _).mono ?_;rintro e w1 ⟨rfl,hb1⟩)
    go_roundw
    case rel=>exact⟨k+1,by simp,by omega,Lib.hid (HB.out.trans (hb1.mono HB.out.size)),hJ2⟩
    case measure=>simp[intOf];omega
  ·obtain rfl:k=54:=by omega
   have hR:0=R:=HJ.out
   subst hR
   go_wp2_with fail
   go_ret
   exact⟨rfl,HB.out⟩
theorem own_up {W W':World} {lo:Nat} {e:TypeId} {s n:Nat} {v:Value} {xs:List Value} (h:W.ownsRow lo e s v n xs) (hb:Below W.heap.size W W'):W'.ownsRow lo e s v n xs:=by
 have hl:=h.lt
 refine⟨h.1, ?_⟩
 rcases h.2 with h|⟨g,cap,cur,rfl,hlo,hg,h1,h2,h3,h4⟩
 ·exact .inl h
 ·exact .inr ⟨g,cap,cur,rfl,hlo,(hb.block g (hl g rfl).2).trans hg,h1,h2,h3,h4⟩
theorem new_cells (w:World) (cs:List Value) (t:TypeId) (fr:Nat×Nat):∀j u,cs[j]? =some u→(w.alloc (.cells cs.toArray t fr)).cell? ((⟨w.heap.size,0,none⟩:Addr).add j)=some u:=by
 intro j u hj
 rw[Addr.add_lit,Nat.zero_add,cell_of_row _ w.heap.size j _ _ _ (heap_alloc_new w _),List.getElem?_toArray]
 exact hj
theorem ints_len:∀ {l:List (List UInt8)} {ns:List Int},intsL l=some ns→ns.length=l.length
 | [],ns,h=>by cases h;rfl
 |s::r,ns,h=>by
  rw[intsL] at h
  cases h1:intOfL s<;>cases h2:intsL r<;>rw[h1,h2] at h
  ·cases h
  ·cases h
  ·cases h
  ·cases h
   simp[ints_len h2]
theorem ints_head {s:List UInt8} {r:List (List UInt8)} {ns:List Int} (h:intsL (s::r)=some ns):∃n ms,intOfL s=some n∧intsL r=some ms∧ns=n::ms:=by
 rw[intsL] at h
 cases h1:intOfL s<;>cases h2:intsL r<;>rw[h1,h2] at h
 ·cases h
 ·cases h
 ·cases h
 ·exact⟨_,_,rfl,rfl,(Option.some.inj h).symm⟩
theorem intOf_parse {s:List UInt8} {n:Int} (h:intOfL s=some n):Lib.parseIntB 64 s= .ok n:=by
 unfold intOfL at h
 split at h
 ·rename_i m hm
  split at h
  ·cases h;exact hm
  ·cases h
 ·cases h
theorem ints_some {w:World} (hG:Gc w) {A:Option Addr} {l:List (List UInt8)} {c m:Nat} {ns:List Int} (hm:l.length=m) (h:RowIs w w.heap.size A (l.map fun s=>Value.string ⟨⟨s⟩⟩)) (hn:intsL l=some ns) (hlen:∀s∈l,s.length≤140737488351232) (hmb:m≤1000000000):
  Calls Tryz.prog 150 #[.slice A m c] w fun e w'=>∃v,e= .returned (.tuple #[v,.bool true])∧w'.ownsRow w.heap.size 3 1 v m (ns.map (Value.int .i64))∧Below w.heap.size w w':=by
 obtain⟨i0,hi,hz0,hz1,hz2⟩:=info_parts intInfo
 have hnl:=ints_len hn
 rw[hm] at hnl
 have HG:=Lib.hid hG
 have HA:=Lib.hid h
 have HM:=Lib.hid hm
 have HL:=Lib.hid hlen
 have HN:Hid (∃ms,intsL (l.drop 0)=some ms∧([]:List Int)++ms=ns):=Lib.hid ⟨ns,hn,rfl⟩
 clear hG h hm hlen hn
 go_enter Tryz.func150,Tryz.ntmps150
 go_wp2_with fail
 go_loopw [4,11] (fun v i wr=>∃(j:Nat) (acc:List Int),i= .int .i64 j∧j≤m∧acc.length=j∧Hid (wr.ownsRow w.heap.size 3 1 v acc.length (acc.map (Value.int .i64)))∧Hid (Below w.heap.size w wr)∧Hid (∃ms,intsL (l.drop j)=some ms∧acc++ms=ns)) (fun _ i _=>m-(intOf i).toNat)
 case atStart=>exact⟨0,[],rfl,Nat.zero_le _,rfl,Lib.hid (World.ownsRow_nil _ _ _ _),Lib.hid (Below.refl _ _),HN⟩
 case round=>
  clear HN
  obtain⟨j,acc,rfl,hj,hacc,HO,HB,HN⟩:=hrel
  by_cases hlt:j<m
  ·obtain⟨x,hx⟩:∃x,l[j]? =some x:=⟨_,List.getElem?_eq_getElem (by rw[HM.out];exact hlt)⟩
   obtain⟨g,o,rfl,hg,hc⟩:=HA.out.at (by rw[List.length_map,HM.out];omega)
   have c0:=old_cell0 (hc j (.string ⟨⟨x⟩⟩) (by simp[hx])) HB.out
   have hxl:=HL.out x (List.mem_of_getElem? hx)
   have hN2:=HN.out
   rw[drop_cons hx] at hN2
   obtain⟨ms,hms,hac⟩:=hN2
   obtain⟨n,rs,hin,hrs,rfl⟩:=ints_head hms
   have hpo:=intOf_parse hin
   have hok:=parseI_ok hpo
   have HP:Hid (Lib.atoiAll (⟨⟨x⟩⟩:ByteArray).data.toList= .ok n):=Lib.hid (by rw[←Lib.parseIntB_64];exact hpo)
   have HI:Hid ((intOfL (⟨⟨x⟩⟩:ByteArray).data.toList).isSome=true):=Lib.hid (by show(intOfL x).isSome=true;rw[hin];rfl)
   have HXL:Hid ((⟨⟨x⟩⟩:ByteArray).size≤140737488351232):=Lib.hid hxl
   have HN2:Hid (∃ms,intsL (l.drop (j+1))=some ms∧(acc++ [n])++ms=ns):=Lib.hid ⟨rs,hrs,by rw[←hac];simp⟩
   have hdig:∀W,Below w.heap.size w W→Calls Tryz.prog 121 #[.string ⟨⟨x⟩⟩] W fun e w'=>e= .returned (.bool true)∧Below W.heap.size W w':=fun W hb=>by
    have:=digits_any (HG.out.up hb) ⟨⟨x⟩⟩ (Nat.le_trans HXL.out (by decide))
    rw[HI.out] at this
    exact this
   have HD:=Lib.hid hdig
   have hat:∀W,Below wr.heap.size wr W→W.ownsRow w.heap.size 3 1 u4 acc.length (acc.map (Value.int .i64))∧Below w.heap.size w W:=fun W hb=>⟨own_up HO.out hb,HB.out.trans (hb.mono HB.out.size)⟩
   have HAT:=Lib.hid hat
   clear hx hg hc hms hac hin hrs hpo hok hdig hxl hat
   go_wp2_with (first
    |(go_at_call 121;refine(HD.out _ HB.out).mono ?_;rintro e w1 ⟨rfl,hb1⟩)
    |(go_at_call 178;refine(Tryz.strconv_Atoi_ok _ (Nat.le_trans HXL.out (by decide)) n HP.out _).mono ?_;rintro e w2 ⟨rfl,hw2⟩;have hb2:=hb1.trans ((atoi_low hw2).mono hb1.size);clear hw2;obtain⟨ho2,hl2⟩:=HAT.out _ hb2)
    |(at_builtin;refine wpList_append_lies _ rfl _ _ 22 rfl w.heap.size 3 i0 _ 1 8 Tryz.underlying22 hi hz0 hz1 hz2 rfl (by decide) u4 acc.length (acc.map (Value.int .i64)) rfl (ho2.alloc _) ⟨w2.heap.size,0,none⟩ 1 1 [.int .i64 n] rfl rfl (new_cells w2 [.int .i64 n] _ _) (by simp[Value.oneCell']) (by decide) (by unfold maxLen;omega) (by omega) (by have:=hl2.size;rw[World.size_alloc];omega) _ rfl ?_;intro g1 cap1 w3 ho3 hg3 hat3 hlt3))
   have hb3:Below w.heap.size w w3:=grown_below (hl2.alloc hl2.size _) (ho2.alloc _) (by have:=hl2.size;rw[World.size_alloc];omega) hg3
   go_wp2_with fail
   go_roundw
   case rel=>exact⟨j+1,acc++ [n],by simp,by omega,by simp[hacc],Lib.hid (by subst hacc;simpa using ho3),Lib.hid hb3,HN2⟩
   case measure=>simp[intOf];omega
  ·obtain rfl:j=m:=by omega
   obtain⟨ms,hms,hac⟩:=HN.out
   rw[List.drop_of_length_le (by rw[HM.out];exact Nat.le_refl _)] at hms
   obtain rfl: []=ms:=Option.some.inj hms
   rw[List.append_nil] at hac
   subst hac
   clear hms
   have ho:=HO.out
   rw[hacc] at ho
   go_wp2_with fail
   go_ret2
   exact⟨u4,rfl,ho,HB.out⟩
section
variable {w0 W W':World} {b k:Nat} {v:Value} {bs:List UInt8} {o:Obj}
theorem BdAt.lt (h:BdAt w0 W b v bs):b<W.heap.size:=by
 obtain⟨p,_,hb⟩:=h.box
 exact(Array.getElem?_eq_some_iff.1 hb).1
theorem BxAt.lt (h:BxAt W b v k o):k<W.heap.size:=(Array.getElem?_eq_some_iff.1 h.1).1
theorem BdAt.under (h:BdAt w0 W b v bs) (hb:Below W.heap.size W W'):BdAt w0 W' b v bs:=by
 obtain⟨p,hp,hbx⟩:=h.box
 exact⟨⟨p,hp,(hb.block b h.lt).trans hbx⟩,own_keep' h.own fun g hg=>hb.block g (h.own.lt g hg).2,h.ne,h.low.trans (hb.mono h.low.size),h.lo⟩
theorem BxAt.under (h:BxAt W b v k o) (hb:Below W.heap.size W W'):BxAt W' b v k o:=⟨(hb.block k h.lt).trans h.1,h.2⟩
theorem BdAt.alloc (h:BdAt w0 W b v bs) (x:Obj):BdAt w0 (W.alloc x) b v bs:=h.under ((Below.refl _ _).alloc (Nat.le_refl _) _)
theorem BxAt.alloc (h:BxAt W b v k o) (x:Obj):BxAt (W.alloc x) b v k o:=h.under ((Below.refl _ _).alloc (Nat.le_refl _) _)
theorem BdAt.drew (h:BdAt w0 W b v bs):BdAt w0 W.drew b v bs:=⟨h.box,h.own,h.ne,⟨h.low.os,h.low.tape,h.low.output,h.low.size,h.low.block⟩,h.lo⟩
theorem BdAt.bx (h:BdAt w0 W b v bs) (x:Obj):BxAt (W.alloc x) b v W.heap.size x:=⟨heap_alloc_new _ _,fun e=>by have:=h.lt;omega,fun e=>by have:=(h.own.lt _ e).2;omega⟩
theorem BdAt.built (h:BdAt w0 W b v bs) (o:Obj):∃Wn rn,W.alloc o=Wn∧W.heap.size=rn∧BdAt w0 Wn b v bs∧BxAt Wn b v rn o∧∀k p,BxAt W b v k p→BxAt Wn b v k p:=
 ⟨_,_,rfl,rfl,h.alloc o,h.bx o,fun _ _ hx=>hx.alloc o⟩
theorem BdAt.row (_:BdAt w0 W b v bs) {cs xs:List Value} {t:TypeId} {fr:Nat×Nat} (hx:BxAt W b v k (.cells cs.toArray t fr)) (he:cs=xs):RowIs W W.heap.size (some ⟨k,0,none⟩) xs:=by
 subst he
 refine .inr ⟨k,0,rfl,hx.lt,fun j u hj=> ?_⟩
 rw[Nat.zero_add,cell_of_row W k j _ _ _ hx.1,List.getElem?_toArray,hj]
end
section
variable {P:Program} (w:World)
theorem run_append_nothing (t ty e:TypeId) (i:TypeInfo) (ht:P.underlying t=some (.slice e)) (hi:P.info? e=some i) (b:Addr) (n c:Nat) (hnc:n≤c) (ga:Option Addr) (gc:Nat):
  (Builtin.append_ #[t,t] ty #[.slice (some b) n c,.slice ga 0 gc]).run P w= .ok (.slice (some b) n c) w:=by
 have hf:(Builtin.firstCells i.size 0 (.slice ga 0 gc)).run P w= .ok #[] w:=by
  cases ga with
  |none=>exact run_firstCells_none w i.size 0 0 gc
  |some a=>exact run_firstCells_some w i.size 0 a 0 gc [] (by simp) (fun j v h=>by cases h)
 simp[Builtin.append_,run_underlying ht,sizeOf,typeInfo,hi,Builtin.lenOf,hnc,hf,storeCells]
theorem wpList_append_nothing {ops:Array Oper} {rest:List Oper} {o:Oper} {a:Act} {Q:Exit→Act→World→Prop} (hgd:o.guard=none) (s x:Operand) (t:TypeId)
  (ho:o.op= .call {callee:= .builtin .append,args:= #[s,x],argTypes:= #[t,t]}) (e:TypeId) (i:TypeInfo) (ht:P.underlying t=some (.slice e)) (hi:P.info? e=some i)
  (b:Addr) (n c:Nat) (hs:a.eval s= .slice (some b) n c) (hnc:n≤c) (ga:Option Addr) (gc:Nat) (hx:a.eval x= .slice ga 0 gc)
  (h:wpList P ops Q rest (a.put o.dst (.slice (some b) n c)) w):wpList P ops Q (o::rest) a w:=by
 refine wpList_plain hgd fun K hK=> ?_
 have hr:=run_append_nothing (P:=P) w t o.type e i ht hi b n c hnc ga gc
 unfold Oper.wp execOp
 simp only[ho,resolve,invoke,builtin,Sem.run_bind,Sem.run_pure,Result.andThen_ok,List.map_toArray,List.map_cons,List.map_nil,hs,hx,hr]
 exact hK _ _ h
end
theorem stringInfo:(Tryz.prog.info? 9).map (·.size)=some 1:=by kernel_rfl
theorem cat_nl (x:List UInt8):(⟨⟨x⟩⟩++⟨#[10]⟩:ByteArray).data.toList=x++ [10]:=by simp
theorem bd_new {w0 W:World} (hl:Below w0.heap.size w0 W):BdAt w0 (W.alloc (.cells #[.pointer none,.slice none 0 0] 80 (0,0))) W.heap.size (.slice none 0 0) []:=
 ⟨⟨_,.inl rfl,heap_alloc_new _ _⟩,World.ownsRow_nil _ _ _ _,by simp[Value.ownBlock],hl.alloc hl.size _,hl.size⟩
theorem words_len (t:List UInt8) (l:List Int) (h:∀n∈l,okI n):(wordsL t l).length≤t.length+22*l.length:=by
 induction l generalizing t with
 |nil=>simp[words_nil]
 |cons a l ih=>
  rw[words_step]
  have h1:=ih (t++32::Lib.itoa a) fun n hn=>h n (List.mem_cons_of_mem _ hn)
  obtain⟨ha,hb⟩:=h a (List.mem_cons_self ..)
  have h2:=Lib.itoa_length_le a ha hb
  simp only[List.length_append,List.length_cons] at h1⊢
  omega
theorem BdAt.isB {w0 W:World} {b:Nat} {v:Value} {bs:List UInt8} (h:BdAt w0 W b v bs):Lib.IsBuilder 80 5 w0.heap.size b (Lib.byteCells bs) W:=by
 obtain⟨p,hp,hb⟩:=h.box
 have ho:W.ownsRow w0.heap.size 5 1 v (Lib.byteCells bs).length (Lib.byteCells bs):=by
  have:=h.own
  rwa [show(Lib.byteCells bs).length=bs.length by simp[Lib.byteCells]]
 rcases hp with rfl|rfl
 ·exact .inl ⟨h.lo,v,hb,ho,h.ne⟩
 ·exact .inr ⟨h.lo,v,hb,ho,h.ne⟩
theorem inst_none {x:Ci} (h:x.text=⟨#[]⟩) (b:List UInt8) (r:List UInt8):b++(instL x++r)=(b++(wordsL (9::(formOf x.op).word) [x.a,x.b,x.at_]++ [10]))++r:=by
 unfold instL
 rw[h]
 simp
attribute [local go_sem] fieldFm0
theorem list_plain {p:Cp} {f:Cf} (hp:Plain p f) (hnm:f.name=⟨#[]⟩) (htk:f.taken=[]) (htx:∀x∈f.code,x.text=⟨#[]⟩) {v:Value} {w:World} (hG:Gc w) (hv:LiesC w w.heap.size p v) (hr:fitsP f.code=none) (hok:CfOk f) (hlen:(listL p).length≤80000000):
  Calls Tryz.prog 13 #[v] w fun e w'=>e= .returned (.tuple #[.string ⟨(listL p).toArray⟩,.nilIface])∧Below w.heap.size w w':=by
 have ho:=hp.one
 obtain⟨T,hT⟩:∃T,listL p=T:=⟨_,rfl⟩
 have he:([103,108,111,98,97,108,115,10]++(wordsL [102,117,110,99,32,45] [f.params,f.slots,f.around]++ [10]))++f.code.flatMap instL=T:=by
  rw[←hT];unfold listL;rw[ho.fs,ho.gs];simp[funcL,hnm,htk,words_nil]
 rw[hT] at hlen⊢
 obtain⟨g,off,fc,ga,gc,fv,rfl,hfc,hA⟩:=hv.one ho
 have HV:=Lib.hid hv
 have HO:=Lib.hid ho
 have HK:=Lib.hid hp
 have HGc:=Lib.hid hG
 have HA:=Lib.hid hA
 have HT:=Lib.hid he
 have HOK:=Lib.hid hok
 have HR:=Lib.hid hr
 have HTX:=Lib.hid htx
 obtain⟨n,hn⟩:∃n,f.code.length=n:=⟨_,rfl⟩
 have HN:=Lib.hid hn
 have hg:=hA.lt
 have h1:=ho.code
 rw[hn] at h1
 have HLV:=Lib.hid (fun(W:World) (hb:Below w.heap.size w W)=>(HV.out.keep hb.block).more hb.size)
 have HCS:=Lib.hid (fun(W:World) (hb:Below w.heap.size w W)=>(hA.keep hb.block).cs)
 rw[hn,hnm,htk,List.length_nil] at HCS
 have hfa:∀z∈ [f.params,f.slots,f.around],okI z:=by
  intro z hz
  rcases List.mem_cons.1 hz with rfl|hz
  ·exact hok.2.1
  rcases List.mem_cons.1 hz with rfl|hz
  ·exact hok.2.2.1
  rw[List.mem_singleton.1 hz]
  exact hok.2.2.2.1
 obtain⟨X1,hX1⟩:∃X1,wordsL [102,117,110,99,32,45] [f.params,f.slots,f.around]=X1:=⟨_,rfl⟩
 have hx1:X1.length≤100:=by
  have:=words_len [102,117,110,99,32,45] _ hfa
  rw[hX1] at this
  simp only[List.length_cons,List.length_nil] at this
  omega
 have HW1:Hid (∀(W:World) {rb:Nat},Below w.heap.size w W→RowIs W W.heap.size (some ⟨rb,0,none⟩) ([f.params,f.slots,f.around].map (Value.int .i64))→Calls Tryz.prog 43 #[.string ⟨⟨[102,117,110,99,32,45]⟩⟩,.slice (some ⟨rb,0,none⟩) 3 3] W fun e w'=>e= .returned (.string ⟨⟨X1⟩⟩)∧Below W.heap.size W w'):=Lib.hid fun W rb hb hr=>by
  have:=words_any (cap:=3) (hG.up hb) [102,117,110,99,32,45] rfl hr hfa (by simp)
  rw[hX1] at this
  exact this
 have HW2:Hid (∀(W:World),Below w.heap.size w W→Calls Tryz.prog 43 #[.string ⟨⟨X1⟩⟩,.slice fv.ta 0 fv.tc] W fun e w'=>e= .returned (.string ⟨⟨X1⟩⟩)∧Below W.heap.size W w'):=Lib.hid fun W hb=>by
  have:=words_any (w:=W) (hG.up hb) X1 (A:=fv.ta) (l:=[]) (cap:=fv.tc) (m:=0) rfl (.inl rfl) (fun _ h=>by cases h) (by omega)
  rw[words_nil] at this
  exact this
 rw[hX1] at HT
 have HLT:=Lib.hid hlen
 clear hv ho hp hG hA hn he hT hok hr hnm htk htx hfa hX1 hlen
 have HB0:Hid (Below w.heap.size w (w.alloc (.cells #[.slice (some ⟨g,off,none⟩) 1 fc,.slice ga 0 gc] 27 (0,0)))):=Lib.hid ((Below.refl _ _).alloc (Nat.le_refl _) _)
 have HP0:=Lib.hid (heap_alloc_new w (.cells #[.slice (some ⟨g,off,none⟩) 1 fc,.slice ga 0 gc] 27 (0,0)))
 go_enter Tryz.func13,Tryz.ntmps13
 go_upto_region 5 with(go_at_call 11;refine(right_plain HK.out (HGc.out.up HB0.out) (HLV.out _ HB0.out) HR.out (by simp)).mono ?_;rintro e w1 ⟨hb1,rfl⟩;have hB1:=HB0.out.trans (hb1.mono HB0.out.size);have hP1:=(hb1.block _ (Array.getElem?_eq_some_iff.1 HP0.out).1).trans HP0.out;have HB1:=Lib.hid hB1;have HP1:=Lib.hid hP1;clear hB1 hP1 hb1)
 have HBd:=Lib.hid (bd_new HB1.out)
 have HXpb:Hid (BxAt (w1.alloc (.cells #[.pointer none,.slice none 0 0] 80 (0,0))) w1.heap.size (.slice none 0 0) w.heap.size (.cells #[.slice (some ⟨g,off,none⟩) 1 fc,.slice ga 0 gc] 27 (0,0))):=Lib.hid ⟨(heap_alloc_old _ _ (Array.getElem?_eq_some_iff.1 HP1.out).1).trans HP1.out,fun e=>by have:=(Array.getElem?_eq_some_iff.1 HP1.out).1;omega,by simp[Value.ownBlock]⟩
 obtain⟨W2,hW2⟩:∃W2,w1.alloc (.cells #[.pointer none,.slice none 0 0] 80 (0,0))=W2:=⟨_,rfl⟩
 obtain⟨b,hb⟩:∃b,w1.heap.size=b:=⟨_,rfl⟩
 simp only[hW2,hb] at HBd HXpb⊢
 have hXa:=HXpb.out.alloc (.cells #[.string ⟨#[103,108,111,98,97,108,115]⟩] 9 (0,0))
 have p1:=cell_of_row _ w.heap.size 1 _ _ _ hXa.1
 simp only[gq] at p1
 have HXa:=Lib.hid hXa
 have HBa:=Lib.hid (HBd.out.alloc (.cells #[.string ⟨#[103,108,111,98,97,108,115]⟩] 9 (0,0)))
 clear hXa hW2
 obtain⟨js,hjs,_⟩:=Option.map_eq_some_iff.1 stringInfo
 go_wp2_with (first
  |(at_builtin;refine wpList_append_nothing _ rfl _ _ 25 rfl 9 js Tryz.underlying25 hjs _ 1 1 rfl (by decide) ga gc rfl ?_)
  |(go_at_call 42;refine(Tryz.strings_Join W2.heap.size 0 1 [⟨#[103,108,111,98,97,108,115]⟩] ⟨#[32]⟩ _ (fun j x hj=>by match j,hj with|0,hj=>obtain rfl:=Option.some.inj hj;exact(cell_of_row _ _ 0 _ _ _ (heap_alloc_new W2 _)).trans rfl) (by simp) (by decide) (by decide) (by decide)).mono ?_;rintro e w2 ⟨rfl,hb2⟩;have HBb:=Lib.hid (HBa.out.under hb2);have HXb:=Lib.hid (HXa.out.under hb2);clear hb2)
  |(go_at_call 41;refine(writeString_any HBb.out _ (by decide)).mono ?_;rintro e w3 ⟨rfl,v3,hb3,hx3⟩;have HBc:Hid (BdAt w w3 b v3 [103,108,111,98,97,108,115,10]):=Lib.hid hb3;have HXc:=Lib.hid (hx3 _ _ HXb.out);have p0:=cell_of_row w3 _ 0 _ _ _ HXc.out.1;simp only[gq] at p0;clear hb3 hx3))
 clear HBa HXa HBd HXpb HBb HXb p0 p1
 go_loopw [27] (fun i wr=>∃v,(i= .int .i64 0∧Hid (BdAt w wr b v [103,108,111,98,97,108,115,10])∧Hid (BxAt wr b v w.heap.size (.cells #[.slice (some ⟨g,off,none⟩) 1 fc,.slice ga 0 gc] 27 (0,0))))∨(i= .int .i64 1∧Hid (BdAt w wr b v T))) (fun i _=>1-(intOf i).toNat)
 case atStart=>exact⟨v3,.inl ⟨rfl,HBc,HXc⟩⟩
 case round=>
  clear HBc HXc
  obtain⟨v4,⟨rfl,HBd,HXpb⟩|⟨rfl,HBd⟩⟩:=hrel
  ·obtain⟨x0,x1,x2,x3,x4,x5⟩:=HCS.out _ HBd.out.low
   go_upto_region 12 with fail
   have HXpb:=Lib.hid (HXpb.out.alloc (.cells #[.string ⟨#[]⟩,.int .i64 f.params,.int .i64 f.slots,.slice fv.ta 0 fv.tc,.int .i64 f.around,.slice fv.ca n fv.cc] 33 (0,0)))
   have HXfb:=Lib.hid (HBd.out.bx (.cells #[.string ⟨#[]⟩,.int .i64 f.params,.int .i64 f.slots,.slice fv.ta 0 fv.tc,.int .i64 f.around,.slice fv.ca n fv.cc] 33 (0,0)))
   have HBd:=Lib.hid (HBd.out.alloc (.cells #[.string ⟨#[]⟩,.int .i64 f.params,.int .i64 f.slots,.slice fv.ta 0 fv.tc,.int .i64 f.around,.slice fv.ca n fv.cc] 33 (0,0)))
   obtain⟨fb,hfb⟩:∃fb,wr.heap.size=fb:=⟨_,rfl⟩
   obtain⟨W3,hW3⟩:∃W3,wr.alloc (.cells #[.string ⟨#[]⟩,.int .i64 f.params,.int .i64 f.slots,.slice fv.ta 0 fv.tc,.int .i64 f.around,.slice fv.ca n fv.cc] 33 (0,0))=W3:=⟨_,rfl⟩
   simp only[hW3,hfb] at HBd HXpb HXfb⊢
   clear hW3 hfb x0 x1 x2 x3 x4 x5
   have HLW:Hid (([103,108,111,98,97,108,115,10]:List UInt8).length+(⟨⟨X1⟩⟩++⟨#[10]⟩:ByteArray).size≤100000000):=Lib.hid (by rw[ByteArray.size_append];show 8+(X1.length+1)≤100000000;omega)
   have hnb:¬(9223372036854775807<X1.length+1):=by omega
   go_cut [] (fun wx=>∃v,Hid (BdAt w wx b v ([103,108,111,98,97,108,115,10]++(X1++ [10])))∧Hid (BxAt wx b v w.heap.size (.cells #[.slice (some ⟨g,off,none⟩) 1 fc,.slice ga 0 gc] 27 (0,0)))∧Hid (BxAt wx b v fb (.cells #[.string ⟨#[]⟩,.int .i64 f.params,.int .i64 f.slots,.slice fv.ta 0 fv.tc,.int .i64 f.around,.slice fv.ca n fv.cc] 33 (0,0))))
   case first=>
    have HBd:=Lib.hid HBd.out.drew
    have HXpb:=Lib.hid (show BxAt W3.drew b v4 w.heap.size (.cells #[.slice (some ⟨g,off,none⟩) 1 fc,.slice ga 0 gc] 27 (0,0)) from HXpb.out)
    have HXfb:=Lib.hid (show BxAt W3.drew b v4 fb (.cells #[.string ⟨#[]⟩,.int .i64 f.params,.int .i64 f.slots,.slice fv.ta 0 fv.tc,.int .i64 f.around,.slice fv.ca n fv.cc] 33 (0,0)) from HXfb.out)
    obtain⟨y1,y2,y3,y4⟩:W3.drew.cell? ⟨fb,1,none⟩=some (.int .i64 f.params)∧W3.drew.cell? ⟨fb,2,none⟩=some (.int .i64 f.slots)∧W3.drew.cell? ⟨fb,3,none⟩=some (.slice fv.ta 0 fv.tc)∧W3.drew.cell? ⟨fb,4,none⟩=some (.int .i64 f.around):=⟨cell_of_row _ fb 1 _ _ _ HXfb.out.1,cell_of_row _ fb 2 _ _ _ HXfb.out.1,cell_of_row _ fb 3 _ _ _ HXfb.out.1,cell_of_row _ fb 4 _ _ _ HXfb.out.1⟩
    refine wp_region_G [] (fun y=>y.cell? ⟨fb,1,none⟩=some (.int .i64 f.params)∧y.cell? ⟨fb,2,none⟩=some (.int .i64 f.slots)∧y.cell? ⟨fb,3,none⟩=some (.slice fv.ta 0 fv.tc)∧y.cell? ⟨fb,4,none⟩=some (.int .i64 f.around)) (by rfl) ?_ (fun hHeld=> ?_)
    ·exact⟨y1,y2,y3,y4⟩
    generalize hwd:World.drew W3=wd at HBd HXpb HXfb y1 y2 y3 y4 hHeld⊢
    refine tk 0 (h:=tk 1 (h:=tk 2 (h:=tk 3 (h:=tk 4 (h:=tk 5 (h:= ?_))))))
    try simp only[nmC]
    refine tk 6 (h:=tk 7 (h:=tk 10 (h:=tk 11 (h:= ?_))))
    try simp only[nmC]
    refine rd1 8 fun KK hKK=> ?_
    go_simp
    obtain⟨wb,ab,eW,eA,hBd,hX,hbx⟩:=HBd.out.built (.cells #[.int .i64 f.params,.int .i64 f.slots,.int .i64 f.around] 3 (0,0))
    simp only[eW,eA]
    clear eW eA
    have HXr:=Lib.hid hX
    have HXpb:=Lib.hid (hbx _ _ HXpb.out)
    have HXfb:=Lib.hid (hbx _ _ HXfb.out)
    have HBd:=Lib.hid hBd
    clear hBd hX hbx
    have y1:=cell_of_row _ fb 1 _ _ _ HXfb.out.1
    have y2:=cell_of_row _ fb 2 _ _ _ HXfb.out.1
    have y3:=cell_of_row _ fb 3 _ _ _ HXfb.out.1
    have y4:=cell_of_row _ fb 4 _ _ _ HXfb.out.1
    simp only[gq] at y1 y2 y3 y4
    refine hKK.out _ _ (⟨y1,y2,y3,y4⟩) (fun hHeld=> ?_)
    clear hKK KK
    try simp only[nmC]
    refine rd1 9 fun KK hKK=> ?_
    go_simp
    go_at_call 43
    refine(HW1.out _ HBd.out.low (HBd.out.row HXr.out rfl)).mono ?_
    rintro e wz ⟨rfl,hbz⟩
    have HXpb:=Lib.hid (HXpb.out.under hbz)
    have HXfb:=Lib.hid (HXfb.out.under hbz)
    have HXr:=Lib.hid (HXr.out.under hbz)
    have HBd:=Lib.hid (HBd.out.under hbz)
    clear hbz
    try dsimp only
    have y1:=cell_of_row _ fb 1 _ _ _ HXfb.out.1
    have y2:=cell_of_row _ fb 2 _ _ _ HXfb.out.1
    have y3:=cell_of_row _ fb 3 _ _ _ HXfb.out.1
    have y4:=cell_of_row _ fb 4 _ _ _ HXfb.out.1
    simp only[gq] at y1 y2 y3 y4
    refine hKK.out _ _ (⟨y1,y2,y3,y4⟩) (fun hHeld=> ?_)
    clear hKK KK
    try simp only[nmC]
    refine rd1 12 fun KK hKK=> ?_
    go_simp
    go_at_call 43
    refine(HW2.out _ HBd.out.low).mono ?_
    rintro e wz ⟨rfl,hbz⟩
    have HXpb:=Lib.hid (HXpb.out.under hbz)
    have HXfb:=Lib.hid (HXfb.out.under hbz)
    have HXr:=Lib.hid (HXr.out.under hbz)
    have HBd:=Lib.hid (HBd.out.under hbz)
    clear hbz
    try dsimp only
    have y1:=cell_of_row _ fb 1 _ _ _ HXfb.out.1
    have y2:=cell_of_row _ fb 2 _ _ _ HXfb.out.1
    have y3:=cell_of_row _ fb 3 _ _ _ HXfb.out.1
    have y4:=cell_of_row _ fb 4 _ _ _ HXfb.out.1
    simp only[gq] at y1 y2 y3 y4
    refine hKK.out _ _ (⟨y1,y2,y3,y4⟩) (fun hHeld=> ?_)
    clear hKK KK
    try simp only[nmC]
    refine tk 13 (h:= ?_)
    try simp only[nmC]
    refine rd1 14 fun KK hKK=> ?_
    go_simp
    go_at_call 41
    refine(writeString_any HBd.out _ HLW.out).mono ?_
    rintro e wz ⟨rfl,vz,hbz,hxz⟩
    have HXpb:=Lib.hid (hxz _ _ HXpb.out)
    have HXfb:=Lib.hid (hxz _ _ HXfb.out)
    have HBd:=Lib.hid hbz
    clear hbz hxz
    try dsimp only
    have y1:=cell_of_row _ fb 1 _ _ _ HXfb.out.1
    have y2:=cell_of_row _ fb 2 _ _ _ HXfb.out.1
    have y3:=cell_of_row _ fb 3 _ _ _ HXfb.out.1
    have y4:=cell_of_row _ fb 4 _ _ _ HXfb.out.1
    simp only[gq] at y1 y2 y3 y4
    refine hKK.out _ _ (⟨y1,y2,y3,y4⟩) (fun hHeld=> ?_)
    clear hKK KK
    try simp only[nmC]
    refine wpAnyG_done (by kernel_rfl) ?_ _
    rw[cat_nl] at HBd
    try go_wp2_with fail
    go_meet
    exact⟨_,HBd,HXpb,HXfb⟩
   case rest=>
    clear HBd HXpb HXfb HLW hnb
    obtain⟨v5,HBd,HXpb,HXfb⟩:=hcut
    have y5:=cell_of_row wc fb 5 _ _ _ HXfb.out.1
    simp only[gq] at y5
    go_wp2_with fail
    go_loopw [53,11] (fun i s11 wr=>∃(k:Nat) (b1:List UInt8) (v:Value),i= .int .i64 k∧k≤n∧Hid (BdAt w wr b v b1)∧Hid (BxAt wr b v w.heap.size (.cells #[.slice (some ⟨g,off,none⟩) 1 fc,.slice ga 0 gc] 27 (0,0)))∧Hid (BxAt wr b v fb (.cells #[.string ⟨#[]⟩,.int .i64 f.params,.int .i64 f.slots,.slice fv.ta 0 fv.tc,.int .i64 f.around,.slice fv.ca n fv.cc] 33 (0,0)))∧Hid (b1++(f.code.drop k).flatMap instL=T)) (fun i _ _=>n-(intOf i).toNat)
    case atStart=>exact⟨0,_,_,rfl,Nat.zero_le _,HBd,HXpb,HXfb,by simpa using HT⟩
    case round=>
     clear HBd HXpb HXfb y5
     obtain⟨k,b1,v6,rfl,hk,HBd,HXpb,HXfb,HQ⟩:=hrel
     by_cases hlt:k<n
     ·obtain⟨x,hx⟩:∃x,f.code[k]? =some x:=⟨_,List.getElem?_eq_getElem (by rw[HN.out];exact hlt)⟩
      have hq:=HQ.out
      have htx:=HTX.out x (List.mem_of_getElem? hx)
      rw[drop_cons hx,List.flatMap_cons,inst_none htx] at hq
      have hxo:=HOK.out.2.2.2.2.2.2.2 x (List.mem_of_getElem? hx)
      obtain⟨_,hcr,_,_⟩:=HA.out.own
      obtain⟨ca,co,hca,hcb,hcc⟩:=hcr.at (by rw[flat_len ins_len];have:=HN.out;show 0<f.code.length*5;omega)
      dsimp only at hca
      obtain⟨x0,x1,x2,x3,x4⟩:=ins_at hcc hx
      have hkb:∀o,wr.cell? ⟨ca,o,none⟩=w.cell? ⟨ca,o,none⟩:=fun o=>World.cell?_of_block (w:=w) (a:=⟨ca,o,none⟩) (HBd.out.low.block ca hcb)
      rw[←hkb] at x0 x1 x2 x3 x4
      rw[htx] at x3
      have hk4:∀z∈ [x.a,x.b,x.at_],okI z:=by
       intro z hz
       rcases List.mem_cons.1 hz with rfl|hz
       ·exact hxo.2.1
       rcases List.mem_cons.1 hz with rfl|hz
       ·exact hxo.2.2.1
       rw[List.mem_singleton.1 hz]
       exact hxo.2.2.2.1
      obtain⟨X3,hX3⟩:∃X3,wordsL (9::(formOf x.op).word) [x.a,x.b,x.at_]=X3:=⟨_,rfl⟩
      rw[hX3] at hq
      have HQ2:=Lib.hid hq
      have hlq:=congrArg List.length hq
      have hT80:=HLT.out
      simp only[List.length_append,List.length_cons,List.length_nil] at hlq
      have hwl:(formOf x.op).word.length+1≤X3.length:=by
       have:=congrArg List.length hX3
       simp only[wordsL,List.length_append,List.length_cons] at this
       omega
      have HW3:Hid (∀(W:World) {rb:Nat},Below w.heap.size w W→RowIs W W.heap.size (some ⟨rb,0,none⟩) ([x.a,x.b,x.at_].map (Value.int .i64))→Calls Tryz.prog 43 #[.string (⟨#[9]⟩++⟨⟨(formOf x.op).word⟩⟩),.slice (some ⟨rb,0,none⟩) 3 3] W fun e w'=>e= .returned (.string ⟨⟨X3⟩⟩)∧Below W.heap.size W w'):=Lib.hid fun W rb hb hr=>by
       have:=words_any (cap:=3) (m:=3) (HGc.out.up hb) (9::(formOf x.op).word) rfl hr hk4 (by simp only[List.length_cons];omega)
       rw[hX3] at this
       exact this
      have HLX:Hid (b1.length+(⟨⟨X3⟩⟩++⟨#[10]⟩:ByteArray).size≤100000000):=Lib.hid (by rw[ByteArray.size_append];show b1.length+(X3.length+1)≤100000000;omega)
      have hnb3:¬(9223372036854775807<X3.length+1):=by omega
      have hnb2:¬(9223372036854775807<1+(formOf x.op).word.length):=by omega
      have hnb4:¬(9223372036854775807<(formOf x.op).word.length+1):=by omega
      obtain⟨F,hF⟩:∃F,formOf x.op=F:=⟨_,rfl⟩
      have HFC:=Lib.hid (forms_call x.op)
      rw[hF] at HW3 hnb2 hnb4 HFC
      clear hx hq hxo hcr hcc hkb hk4 hX3 htx hlq hT80 hwl hF
      go_upto_region 16 with fail
      have HXpb:=Lib.hid (HXpb.out.alloc (.cells #[.int .i64 x.op,.int .i64 x.a,.int .i64 x.b,.string ⟨#[]⟩,.int .i64 x.at_] 36 (0,0)))
      have HXfb:=Lib.hid (HXfb.out.alloc (.cells #[.int .i64 x.op,.int .i64 x.a,.int .i64 x.b,.string ⟨#[]⟩,.int .i64 x.at_] 36 (0,0)))
      have HXxb:=Lib.hid (HBd.out.bx (.cells #[.int .i64 x.op,.int .i64 x.a,.int .i64 x.b,.string ⟨#[]⟩,.int .i64 x.at_] 36 (0,0)))
      have HBd:=Lib.hid (HBd.out.alloc (.cells #[.int .i64 x.op,.int .i64 x.a,.int .i64 x.b,.string ⟨#[]⟩,.int .i64 x.at_] 36 (0,0)))
      obtain⟨xb,hxb⟩:∃xb,wr.heap.size=xb:=⟨_,rfl⟩
      obtain⟨W4,hW4⟩:∃W4,wr.alloc (.cells #[.int .i64 x.op,.int .i64 x.a,.int .i64 x.b,.string ⟨#[]⟩,.int .i64 x.at_] 36 (0,0))=W4:=⟨_,rfl⟩
      simp only[hW4,hxb] at HBd HXpb HXfb HXxb⊢
      clear hW4 hxb x0 x1 x2 x3 x4
      clear HV HO HK HA HLV HCS HB0 HP0 HR HOK HT HN hca hfc hg HTX HQ
      go_cut [11] (fun s11 wx=>s11= .string ⟨⟨X3⟩⟩∧∃v,Hid (BdAt w wx b v b1)∧Hid (BxAt wx b v w.heap.size (.cells #[.slice (some ⟨g,off,none⟩) 1 fc,.slice ga 0 gc] 27 (0,0)))∧Hid (BxAt wx b v fb (.cells #[.string ⟨#[]⟩,.int .i64 f.params,.int .i64 f.slots,.slice fv.ta 0 fv.tc,.int .i64 f.around,.slice fv.ca n fv.cc] 33 (0,0)))∧Hid (BxAt wx b v xb (.cells #[.int .i64 x.op,.int .i64 x.a,.int .i64 x.b,.string ⟨#[]⟩,.int .i64 x.at_] 36 (0,0))))
      case first=>
       have HBd:=Lib.hid HBd.out.drew
       have HXpb:=Lib.hid (show BxAt W4.drew b v6 w.heap.size (.cells #[.slice (some ⟨g,off,none⟩) 1 fc,.slice ga 0 gc] 27 (0,0)) from HXpb.out)
       have HXfb:=Lib.hid (show BxAt W4.drew b v6 fb (.cells #[.string ⟨#[]⟩,.int .i64 f.params,.int .i64 f.slots,.slice fv.ta 0 fv.tc,.int .i64 f.around,.slice fv.ca n fv.cc] 33 (0,0)) from HXfb.out)
       have HXxb:=Lib.hid (show BxAt W4.drew b v6 xb (.cells #[.int .i64 x.op,.int .i64 x.a,.int .i64 x.b,.string ⟨#[]⟩,.int .i64 x.at_] 36 (0,0)) from HXxb.out)
       obtain⟨y0,y1,y2,y4⟩:W4.drew.cell? ⟨xb,0,none⟩=some (.int .i64 x.op)∧W4.drew.cell? ⟨xb,1,none⟩=some (.int .i64 x.a)∧W4.drew.cell? ⟨xb,2,none⟩=some (.int .i64 x.b)∧W4.drew.cell? ⟨xb,4,none⟩=some (.int .i64 x.at_):=⟨cell_of_row _ xb 0 _ _ _ HXxb.out.1,cell_of_row _ xb 1 _ _ _ HXxb.out.1,cell_of_row _ xb 2 _ _ _ HXxb.out.1,cell_of_row _ xb 4 _ _ _ HXxb.out.1⟩
       refine wp_region_G [] (fun y=>y.cell? ⟨xb,0,none⟩=some (.int .i64 x.op)∧y.cell? ⟨xb,1,none⟩=some (.int .i64 x.a)∧y.cell? ⟨xb,2,none⟩=some (.int .i64 x.b)∧y.cell? ⟨xb,4,none⟩=some (.int .i64 x.at_)) (by rfl) ?_ (fun hHeld=> ?_)
       ·exact⟨y0,y1,y2,y4⟩
       generalize hwd:World.drew W4=wd at HBd HXpb HXfb HXxb y0 y1 y2 y4 hHeld⊢
       refine tk 0 (h:=tk 1 (h:=tk 5 (h:=tk 6 (h:=tk 7 (h:=tk 8 (h:= ?_))))))
       try simp only[nmC]
       refine tk 9 (h:=tk 10 (h:= ?_))
       try simp only[nmC]
       refine rd2 2 11 (fun KK hKK=> ?_) fun KK hKK=> ?_
       ·go_simp
        go_at_call 44
        refine(HFC.out _).mono ?_
        rintro e wz ⟨rfl,hbz⟩
        have HXpb:=Lib.hid (HXpb.out.under hbz)
        have HXfb:=Lib.hid (HXfb.out.under hbz)
        have HXxb:=Lib.hid (HXxb.out.under hbz)
        have HBd:=Lib.hid (HBd.out.under hbz)
        clear hbz
        try dsimp only
        obtain⟨y0,y1,y2⟩:=cr3 _ xb HXxb.out.1
        have y4:=cell_of_row _ xb 4 _ _ _ HXxb.out.1
        simp only[gq] at y0 y1 y2 y4
        refine hKK.out _ _ (⟨y0,y1,y2,y4⟩) (fun hHeld=> ?_)
        clear hKK KK
        try simp only[nmC]
        refine tk 3 (h:=tk 4 (h:= ?_))
        try simp only[nmC]
        refine rd1 11 fun KK hKK=> ?_
        go_simp
        obtain⟨wb,ab,eW,eA,hBd,hX,hbx⟩:=HBd.out.built (.cells #[.int .i64 x.a,.int .i64 x.b,.int .i64 x.at_] 3 (0,0))
        simp only[eW,eA]
        clear eW eA
        have HXr:=Lib.hid hX
        have HXpb:=Lib.hid (hbx _ _ HXpb.out)
        have HXfb:=Lib.hid (hbx _ _ HXfb.out)
        have HXxb:=Lib.hid (hbx _ _ HXxb.out)
        have HBd:=Lib.hid hBd
        clear hBd hX hbx
        obtain⟨y0,y1,y2⟩:=cr3 _ xb HXxb.out.1
        have y4:=cell_of_row _ xb 4 _ _ _ HXxb.out.1
        simp only[gq] at y0 y1 y2 y4
        refine hKK.out _ _ (⟨y0,y1,y2,y4⟩) (fun hHeld=> ?_)
        clear hKK KK
        try simp only[nmC]
        refine rd1 12 fun KK hKK=> ?_
        go_simp
        go_at_call 43
        refine(HW3.out _ HBd.out.low (HBd.out.row HXr.out rfl)).mono ?_
        rintro e wz ⟨rfl,hbz⟩
        have HXpb:=Lib.hid (HXpb.out.under hbz)
        have HXfb:=Lib.hid (HXfb.out.under hbz)
        have HXxb:=Lib.hid (HXxb.out.under hbz)
        have HXr:=Lib.hid (HXr.out.under hbz)
        have HBd:=Lib.hid (HBd.out.under hbz)
        clear hbz
        try dsimp only
        obtain⟨y0,y1,y2⟩:=cr3 _ xb HXxb.out.1
        have y4:=cell_of_row _ xb 4 _ _ _ HXxb.out.1
        simp only[gq] at y0 y1 y2 y4
        refine hKK.out _ _ (⟨y0,y1,y2,y4⟩) (fun hHeld=> ?_)
        clear hKK KK
        try simp only[nmC]
        refine tk 13 (h:= ?_)
        try simp only[nmC]
        refine wpAnyG_done (by kernel_rfl) ?_ _
        try go_wp2_with fail
        go_meet
        exact⟨rfl,_,HBd,HXpb,HXfb,HXxb⟩
       ·go_simp
        obtain⟨wb,ab,eW,eA,hBd,hX,hbx⟩:=HBd.out.built (.cells #[.int .i64 x.a,.int .i64 x.b,.int .i64 x.at_] 3 (0,0))
        simp only[eW,eA]
        clear eW eA
        have HXr:=Lib.hid hX
        have HXpb:=Lib.hid (hbx _ _ HXpb.out)
        have HXfb:=Lib.hid (hbx _ _ HXfb.out)
        have HXxb:=Lib.hid (hbx _ _ HXxb.out)
        have HBd:=Lib.hid hBd
        clear hBd hX hbx
        obtain⟨y0,y1,y2⟩:=cr3 _ xb HXxb.out.1
        have y4:=cell_of_row _ xb 4 _ _ _ HXxb.out.1
        simp only[gq] at y0 y1 y2 y4
        refine hKK.out _ _ (⟨y0,y1,y2,y4⟩) (fun hHeld=> ?_)
        clear hKK KK
        try simp only[nmC]
        refine rd1 2 fun KK hKK=> ?_
        go_simp
        go_at_call 44
        refine(HFC.out _).mono ?_
        rintro e wz ⟨rfl,hbz⟩
        have HXpb:=Lib.hid (HXpb.out.under hbz)
        have HXfb:=Lib.hid (HXfb.out.under hbz)
        have HXxb:=Lib.hid (HXxb.out.under hbz)
        have HXr:=Lib.hid (HXr.out.under hbz)
        have HBd:=Lib.hid (HBd.out.under hbz)
        clear hbz
        try dsimp only
        obtain⟨y0,y1,y2⟩:=cr3 _ xb HXxb.out.1
        have y4:=cell_of_row _ xb 4 _ _ _ HXxb.out.1
        simp only[gq] at y0 y1 y2 y4
        refine hKK.out _ _ (⟨y0,y1,y2,y4⟩) (fun hHeld=> ?_)
        clear hKK KK
        try simp only[nmC]
        refine tk 3 (h:=tk 4 (h:= ?_))
        try simp only[nmC]
        refine rd1 12 fun KK hKK=> ?_
        go_simp
        go_at_call 43
        refine(HW3.out _ HBd.out.low (HBd.out.row HXr.out rfl)).mono ?_
        rintro e wz ⟨rfl,hbz⟩
        have HXpb:=Lib.hid (HXpb.out.under hbz)
        have HXfb:=Lib.hid (HXfb.out.under hbz)
        have HXxb:=Lib.hid (HXxb.out.under hbz)
        have HXr:=Lib.hid (HXr.out.under hbz)
        have HBd:=Lib.hid (HBd.out.under hbz)
        clear hbz
        try dsimp only
        obtain⟨y0,y1,y2⟩:=cr3 _ xb HXxb.out.1
        have y4:=cell_of_row _ xb 4 _ _ _ HXxb.out.1
        simp only[gq] at y0 y1 y2 y4
        refine hKK.out _ _ (⟨y0,y1,y2,y4⟩) (fun hHeld=> ?_)
        clear hKK KK
        try simp only[nmC]
        refine tk 13 (h:= ?_)
        try simp only[nmC]
        refine wpAnyG_done (by kernel_rfl) ?_ _
        try go_wp2_with fail
        go_meet
        exact⟨rfl,_,HBd,HXpb,HXfb,HXxb⟩
      case rest=>
       clear HBd HXpb HXfb HXxb
       obtain⟨rfl,v7,HBd,HXpb,HXfb,HXxb⟩:=hcut
       have y3:=cell_of_row wc xb 3 _ _ _ HXxb.out.1
       simp only[gq] at y3
       go_wp2_with (go_at_call 41;refine(writeString_any HBd.out _ HLX.out).mono ?_;rintro e wz ⟨rfl,vz,hbz,hxz⟩;rw[cat_nl] at hbz;have HBz:=Lib.hid hbz;have HXpz:=Lib.hid (hxz _ _ HXpb.out);have HXfz:=Lib.hid (hxz _ _ HXfb.out);clear hbz hxz)
       go_roundw
       case rel=>exact⟨k+1,_,vz,by simp,by omega,HBz,HXpz,HXfz,HQ2⟩
       case measure=>simp[intOf];omega
     ·obtain rfl:k=n:=by omega
      have he:=HQ.out
      rw[List.drop_of_length_le (by rw[HN.out];exact Nat.le_refl _)] at he
      simp only[List.flatMap_nil,List.append_nil] at he
      subst he
      go_wp2_with fail
      go_roundw
      case rel=>exact⟨v6,.inr ⟨rfl,HBd⟩⟩
      case measure=>simp[intOf]
  ·have hne:T≠ []:=fun e=>by
    have:=congrArg List.length HT.out
    rw[e] at this
    simp at this
   go_wp2_with (go_at_call 46;refine(Tryz.Builder_String w.heap.size b T wr HBd.out.isB hne).mono ?_;rintro e wz ⟨rfl,hbz⟩)
   go_ret2
   exact⟨rfl,HBd.out.low.trans hbz⟩
end Go.Proofs.YtagnicbknbmccaaGreatDoor
