/- code.words; (*strings.Builder).WriteString as this cut has it. code.digits of any text, code.operation of any word, code.ints of numbers as List writes them. code.says of every instruction. code.List of a plain program of one function, without texts. -/
import Derived.Lib.Builder
import Derived.Lib.ItoaLen
import Derived.Lib.ParseIntBTie
import Derived.Lib.AtoiErrMem
import Derived.Deep.AppendLies
import Derived.Test.YtagnicbknbmccaaGreatDoorShelf
import Derived.Test.YtagnicbknbmccaaGreatDoorMCwV
import Derived.Test.YtagnicbknbmccaaGreatDoorMCwG
import Derived.Test.YtagnicbknbmccaaGreatDoorMCdD
import Derived.Test.YtagnicbknbmccaaGreatDoorMCmA
import Derived.Test.YtagnicbknbmccaaGreatDoorMCwH
import Derived.Test.YtagnicbknbmccaaGreatDoorMCyA
import Derived.Test.YtagnicbknbmccaaGreatDoorMCyD
import Derived.Test.YtagnicbknbmccaaGreatDoorSqC
import Derived.Test.YtagnicbknbmccaaGreatDoorMCzH
import Derived.Test.YtagnicbknbmccaaGreatDoorMCwF
import Derived.Test.YtagnicbknbmccaaGreatDoorMCzE
set_option maxRecDepth 100000
set_option maxHeartbeats 4000000
namespace Go.Proofs.YtagnicbknbmccaaGreatDoor
open Go.RowKit
theorem Gc.tab {w:World} (h:Gc w):Lib.TabIs Tryz.prog w "internal/strconv.uint64pow10" .u64 Lib.pow10Tab:=h.pow
theorem cat_blank (t r:List UInt8):Value.string (⟨⟨t⟩⟩++(⟨#[32]⟩++⟨r.toArray⟩))= .string ⟨⟨t++32::r⟩⟩:=by
 congr 1
theorem words_step (t:List UInt8) (n:Int) (l:List Int):wordsL t (n::l)=wordsL (t++32::Lib.itoa n) l:=by simp[wordsL]
theorem words_nil (t:List UInt8):wordsL t []=t:=by simp[wordsL]
theorem words_any {w:World} (hG:Gc w) (s:List UInt8) {A:Option Addr} {l:List Int} {cap m:Nat} (hm:l.length=m) (hr:RowIs w w.heap.size A (l.map (Value.int .i64))) (hok:∀n∈l,okI n) (hlen:s.length+22*m≤1000000000):
  Calls Tryz.prog 43 #[.string ⟨⟨s⟩⟩,.slice A m cap] w fun e w'=>e= .returned (.string ⟨⟨wordsL s l⟩⟩)∧Below w.heap.size w w':=by
 obtain⟨T,HT⟩:∃T,Hid (wordsL s l=T):=⟨_,rfl⟩
 rw[HT.out]
 have HGc:=Lib.hid hG
 have HR:=Lib.hid hr
 have HOK:=Lib.hid hok
 have HM:=Lib.hid hm
 clear hG hr hok hm
 go_enter Tryz.func43,Tryz.ntmps43
 go_wp2_with fail
 go_loopw [0,9] (fun v i wr=>∃(j:Nat) (t:List UInt8),i= .int .i64 j∧j≤m∧v= .string ⟨⟨t⟩⟩∧t.length≤s.length+22*j∧Hid (Below w.heap.size w wr)∧Hid (wordsL t (l.drop j)=T)) (fun _ i _=>m-(intOf i).toNat)
 case atStart=>exact⟨0,s,rfl,Nat.zero_le _,rfl,by omega,Lib.hid (Below.refl _ _),HT⟩
 case round=>
  obtain⟨j,t,rfl,hj,rfl,htl,HB,HQ⟩:=hrel
  by_cases hlt:j<m
  ·obtain⟨x,hx⟩:∃x,l[j]? =some x:=⟨_,List.getElem?_eq_getElem (by rw[HM.out];exact hlt)⟩
   have hxk:=HOK.out x (List.mem_of_getElem? hx)
   obtain⟨g,o,rfl,hg,hc⟩:=HR.out.at (by rw[List.length_map,HM.out];omega)
   have cx:=hc j (.int .i64 x) (by simp[hx])
   rw[←HB.out.cell (p:=⟨g,o+j,none⟩) hg] at cx
   have hq:=HQ.out
   rw[drop_cons hx,words_step] at hq
   have HQ2:=Lib.hid hq
   have HTB:=Lib.hid (HGc.out.up HB.out).pow
   obtain⟨hx0,hx1⟩:=hxk
   have hil:=Lib.itoa_length_le x hx0 hx1
   clear hx hq hc
   go_wp2_with (go_at_call 77;refine(Tryz.strconv_Itoa x hx0 hx1 _ HTB.out).mono ?_;rintro e w1 ⟨rfl,k,os,rfl⟩)
   go_roundw
   case rel=>exact⟨j+1,t++32::Lib.itoa x,by simp,by omega,cat_blank _ _,by simp only[List.length_append,List.length_cons];omega,Lib.hid (HB.out.trans (grow_under.mono HB.out.size)),HQ2⟩
   case measure=>simp[intOf];omega
  ·obtain rfl:j=m:=by omega
   have hq:=HQ.out
   rw[List.drop_of_length_le (by rw[HM.out];exact Nat.le_refl _),words_nil] at hq
   subst hq
   go_wp2_with fail
   go_ret
   exact⟨rfl,HB.out⟩
theorem atoi_low {w w':World} {e:TypeId} (h:w'=w∨∃t,w'=Lib.bytesWorld w e t):Below w.heap.size w w':=by
 rcases h with rfl|⟨t,rfl⟩
 ·exact Below.refl _ _
 ·exact Lib.bytesWorld_below w e t
theorem intOf_beq {s:ByteArray} {v:Int} (h:Lib.parseIntB 64 s.data.toList= .ok v):(Lib.itoa v==s.toList)=(intOfL s.data.toList).isSome:=by
 unfold intOfL
 rw[h]
 simp only
 rw[ByteArray.toList_eq]
 by_cases e:Lib.itoa v=s.data.toList
 ·simp[e]
 ·simp[e]
theorem digits_any {w:World} (hG:Gc w) (s:ByteArray) (hs:s.size≤140737488355328):
  Calls Tryz.prog 121 #[.string s] w fun e w'=>e= .returned (.bool (intOfL s.data.toList).isSome)∧Below w.heap.size w w':=by
 have HG:=Lib.hid hG
 clear hG
 rcases h:Lib.parseIntB 64 s.data.toList with v|_|_
 ·
  obtain⟨h0,h1⟩:=parseI_ok h
  have hq:=intOf_beq h
  obtain⟨R,hR⟩:∃R,(intOfL s.data.toList).isSome=R:=⟨_,rfl⟩
  rw[hR] at hq⊢
  have H:=Lib.hid h
  have HQ:=Lib.hid hq
  clear h hR hq
  go_enter Tryz.func121,Tryz.ntmps121
  go_wp2_with (first
   |(go_at_call 160;refine(Tryz.strconv_ParseInt_10_at64_ok s (by omega) v H.out w).mono ?_;rintro e w1 ⟨rfl,hw⟩;have hb1:=atoi_low hw;clear hw;have HT:=Lib.hid (HG.out.up hb1).tab)
   |(go_at_call 161;refine(Tryz.strconv_FormatInt_10 v h0 h1 _ HT.out).mono ?_;rintro e w2 ⟨rfl,k,os,rfl⟩))
  go_ret
  exact⟨ret_bool HQ.out,hb1.trans (grow_under.mono hb1.size)⟩
 ·
  obtain⟨ev,hv,hev⟩:=HG.out.syn
  have hR:(intOfL s.data.toList).isSome=false:=by unfold intOfL;rw[h];rfl
  rw[hR]
  have H:=Lib.hid (Tryz.strconv_ParseInt_10_at64_syntax s (by omega) h ev w hv hev)
  clear h hv hev hR
  go_enter Tryz.func121,Tryz.ntmps121
  go_wp2_with (go_at_call 160;refine H.out.mono ?_;rintro e w1 ⟨N,rfl,_,_,hb1⟩)
  go_ret
  exact⟨rfl,hb1⟩
 ·
  obtain⟨ev,hv,hev⟩:=HG.out.rng
  have hR:(intOfL s.data.toList).isSome=false:=by unfold intOfL;rw[h];rfl
  rw[hR]
  have H:=Lib.hid (Tryz.strconv_ParseInt_10_at64_range s (by omega) h ev w hv hev)
  clear h hv hev hR
  go_enter Tryz.func121,Tryz.ntmps121
  go_wp2_with (go_at_call 160;refine H.out.mono ?_;rintro e w1 ⟨N,rfl,_,_,hb1⟩)
  go_ret
  exact⟨rfl,hb1⟩
attribute [local go_sem] fieldFm0
theorem operation_any (s:List UInt8) (w:World):
  Calls Tryz.prog 151 #[.string ⟨⟨s⟩⟩] w fun e w'=>e= .returned (.int .i64 (operationL s:Nat))∧Below w.heap.size w w':=by
 obtain⟨R,hR⟩:∃R,operationL s=R:=⟨_,rfl⟩
 rw[hR]
 have HR:Hid (opFrom s (54-1) 1=R):=Lib.hid hR
 clear hR
 go_enter Tryz.func151,Tryz.ntmps151
 go_wp2_with fail
 go_loopw [3] (fun i wr=>∃k:Nat,i= .int .i64 k∧k≤54∧Hid (Below w.heap.size w wr)∧Hid (opFrom s (54-k) k=R)) (fun i _=>54-(intOf i).toNat)
 case atStart=>exact⟨1,rfl,by omega,Lib.hid (Below.refl _ _),HR⟩
 case round=>
  clear HR
  obtain⟨k,rfl,hk,HB,HJ⟩:=hrel
  by_cases hlt:k≤53
  ·have hj:=HJ.out
   rw[show 54-k=(54-(k+1))+1 by omega,opFrom] at hj
   have HF:=Lib.hid (forms_call (k:Int))
   obtain⟨F,hF⟩:∃F,formOf (k:Int)=F:=⟨_,rfl⟩
   rw[hF] at HF hj
   clear hF
   by_cases hq:F.word=s
   ·have e1:(F.word==s)=true:=by rw[hq];simp
    have hR:k=R:=by rw[←hj,hq];simp
    subst hR
    clear hj hq
    go_wp2_with (go_at_call 44;refine(HF.out _).mono ?_;rintro e w1 ⟨rfl,hb1⟩)
    go_ret
    exact⟨rfl,HB.out.trans (hb1.mono HB.out.size)⟩
   ·have e1:(F.word==s)=false:=by
     rw[beq_eq_false_iff_ne]
     exact hq
    have hJ2:Hid (opFrom s (54-(k+1)) (k+1)=R):=by
     rw[if_neg (by simpa using hq)] at hj
     exact hj
    clear hj hq
    go_wp2_with (go_at_call 44;refine(HF.out _).mono ?_;rintro e w1 ⟨rfl,hb1⟩)
    go_roundw
    case rel=>exact⟨k+1,by simp,by omega,Lib.hid (HB.out.trans (hb1.mono HB.out.size)),hJ2⟩
    case measure=>simp[intOf];omega
  ·obtain rfl:k=54:=by omega
   have hR:0=R:=HJ.out
   subst hR
   go_wp2_with fail
   go_ret
   exact⟨rfl,HB.out⟩
theorem own_up {W W':World} {lo:Nat} {e:TypeId} {s n:Nat} {v:Value} {xs:List Value} (h:W.ownsRow lo e s v n xs) (hb:Below W.heap.size W W'):W'.ownsRow lo e s v n xs:=by
 have hl:=h.lt
 refine⟨h.1, ?_⟩
 rcases h.2 with h|⟨g,cap,cur,rfl,hlo,hg,h1,h2,h3,h4⟩
 ·exact .inl h
 ·exact .inr ⟨g,cap,cur,rfl,hlo,(hb.block g (hl g rfl).2).trans hg,h1,h2,h3,h4⟩
theorem new_cells (w:World) (cs:List Value) (t:TypeId) (fr:Nat×Nat):∀j u,cs[j]? =some u→(w.alloc (.cells cs.toArray t fr)).cell? ((⟨w.heap.size,0,none⟩:Addr).add j)=some u:=by
 intro j u hj
 rw[Addr.add_lit,Nat.zero_add,cell_of_row _ w.heap.size j _ _ _ (heap_alloc_new w _),List.getElem?_toArray]
 exact hj
theorem ints_len:∀ {l:List (List UInt8)} {ns:List Int},intsL l=some ns→ns.length=l.length
 | [],ns,h=>by cases h;rfl
 |s::r,ns,h=>by
  rw[intsL] at h
  cases h1:intOfL s<;>cases h2:intsL r<;>rw[h1,h2] at h
  ·cases h
  ·cases h
  ·cases h
  ·cases h
   simp[ints_len h2]
theorem ints_head {s:List UInt8} {r:List (List UInt8)} {ns:List Int} (h:intsL (s::r)=some ns):∃n ms,intOfL s=some n∧intsL r=some ms∧ns=n::ms:=by
 rw[intsL] at h
 cases h1:intOfL s<;>cases h2:intsL r<;>rw[h1,h2] at h
 ·cases h
 ·cases h
 ·cases h
 ·exact⟨_,_,rfl,rfl,(Option.some.inj h).symm⟩
theorem intOf_parse {s:List UInt8} {n:Int} (h:intOfL s=some n):Lib.parseIntB 64 s= .ok n:=by
 unfold intOfL at h
 split at h
 ·rename_i m hm
  split at h
  ·cases h;exact hm
  ·cases h
 ·cases h
theorem ints_some {w:World} (hG:Gc w) {A:Option Addr} {l:List (List UInt8)} {c m:Nat} {ns:List Int} (hm:l.length=m) (h:RowIs w w.heap.size A (l.map fun s=>Value.string ⟨⟨s⟩⟩)) (hn:intsL l=some ns) (hlen:∀s∈l,s.length≤140737488351232) (hmb:m≤1000000000):
  Calls Tryz.prog 150 #[.slice A m c] w fun e w'=>∃v,e= .returned (.tuple #[v,.bool true])∧w'.ownsRow w.heap.size 3 1 v m (ns.map (Value.int .i64))∧Below w.heap.size w w':=by
 obtain⟨i0,hi,hz0,hz1,hz2⟩:=info_parts intInfo
 have hnl:=ints_len hn
 rw[hm] at hnl
 have HG:=Lib.hid hG
 have HA:=Lib.hid h
 have HM:=Lib.hid hm
 have HL:=Lib.hid hlen
 have HN:Hid (∃ms,intsL (l.drop 0)=some ms∧([]:List Int)++ms=ns):=Lib.hid ⟨ns,hn,rfl⟩
 clear hG h hm hlen hn
 go_enter Tryz.func150,Tryz.ntmps150
 go_wp2_with fail
 go_loopw [4,11] (fun v i wr=>∃(j:Nat) (acc:List Int),i= .int .i64 j∧j≤m∧acc.length=j∧Hid (wr.ownsRow w.heap.size 3 1 v acc.length (acc.map (Value.int .i64)))∧Hid (Below w.heap.size w wr)∧Hid (∃ms,intsL (l.drop j)=some ms∧acc++ms=ns)) (fun _ i _=>m-(intOf i).toNat)
 case atStart=>exact⟨0,[],rfl,Nat.zero_le _,rfl,Lib.hid (World.ownsRow_nil _ _ _ _),Lib.hid (Below.refl _ _),HN⟩
 case round=>
  clear HN
  obtain⟨j,acc,rfl,hj,hacc,HO,HB,HN⟩:=hrel
  by_cases hlt:j<m
  ·obtain⟨x,hx⟩:∃x,l[j]? =some x:=⟨_,List.getElem?_eq_getElem (by rw[HM.out];exact hlt)⟩
   obtain⟨g,o,rfl,hg,hc⟩:=HA.out.at (by rw[List.length_map,HM.out];omega)
   have c0:=old_cell0 (hc j (.string ⟨⟨x⟩⟩) (by simp[hx])) HB.out
   have hxl:=HL.out x (List.mem_of_getElem? hx)
   have hN2:=HN.out
   rw[drop_cons hx] at hN2
   obtain⟨ms,hms,hac⟩:=hN2
   obtain⟨n,rs,hin,hrs,rfl⟩:=ints_head hms
   have hpo:=intOf_parse hin
   have hok:=parseI_ok hpo
   have HP:Hid (Lib.atoiAll (⟨⟨x⟩⟩:ByteArray).data.toList= .ok n):=Lib.hid (by rw[←Lib.parseIntB_64];exact hpo)
   have HI:Hid ((intOfL (⟨⟨x⟩⟩:ByteArray).data.toList).isSome=true):=Lib.hid (by show(intOfL x).isSome=true;rw[hin];rfl)
   have HXL:Hid ((⟨⟨x⟩⟩:ByteArray).size≤140737488351232):=Lib.hid hxl
   have HN2:Hid (∃ms,intsL (l.drop (j+1))=some ms∧(acc++ [n])++ms=ns):=Lib.hid ⟨rs,hrs,by rw[←hac];simp⟩
   have hdig:∀W,Below w.heap.size w W→Calls Tryz.prog 121 #[.string ⟨⟨x⟩⟩] W fun e w'=>e= .returned (.bool true)∧Below W.heap.size W w':=fun W hb=>by
    have:=digits_any (HG.out.up hb) ⟨⟨x⟩⟩ (Nat.le_trans HXL.out (by decide))
    rw[HI.out] at this
    exact this
   have HD:=Lib.hid hdig
   have hat:∀W,Below wr.heap.size wr W→W.ownsRow w.heap.size 3 1 u4 acc.length (acc.map (Value.int .i64))∧Below w.heap.size w W:=fun W hb=>⟨own_up HO.out hb,HB.out.trans (hb.mono HB.out.size)⟩
   have HAT:=Lib.hid hat
   clear hx hg hc hms hac hin hrs hpo hok hdig hxl hat
   go_wp2_with (first
    |(go_at_call 121;refine(HD.out _ HB.out).mono ?_;rintro e w1 ⟨rfl,hb1⟩)
    |(go_at_call 178;refine(Tryz.strconv_Atoi_ok _ (Nat.le_trans HXL.out (by decide)) n HP.out _).mono ?_;rintro e w2 ⟨rfl,hw2⟩;have hb2:=hb1.trans ((atoi_low hw2).mono hb1.size);clear hw2;obtain⟨ho2,hl2⟩:=HAT.out _ hb2)
    |(at_builtin;refine wpList_append_lies _ rfl _ _ 22 rfl w.heap.size 3 i0 _ 1 8 Tryz.underlying22 hi hz0 hz1 hz2 rfl (by decide) u4 acc.length (acc.map (Value.int .i64)) rfl (ho2.alloc _) ⟨w2.heap.size,0,none⟩ 1 1 [.int .i64 n] rfl rfl (new_cells w2 [.int .i64 n] _ _) (by simp[Value.oneCell']) (by decide) (by unfold maxLen;omega) (by omega) (by have:=hl2.size;rw[World.size_alloc];omega) _ rfl ?_;intro g1 cap1 w3 ho3 hg3 hat3 hlt3))
   have hb3:Below w.heap.size w w3:=grown_below (hl2.alloc hl2.size _) (ho2.alloc _) (by have:=hl2.size;rw[World.size_alloc];omega) hg3
   go_wp2_with fail
   go_roundw
   case rel=>exact⟨j+1,acc++ [n],by simp,by omega,by simp[hacc],Lib.hid (by subst hacc;simpa using ho3),Lib.hid hb3,HN2⟩
   case measure=>simp[intOf];omega
  ·obtain rfl:j=m:=by omega
   obtain⟨ms,hms,hac⟩:=HN.out
   rw[List.drop_of_length_le (by rw[HM.out];exact Nat.le_refl _)] at hms
   obtain rfl: []=ms:=Option.some.inj hms
   rw[List.append_nil] at hac
   subst hac
   clear hms
   have ho:=HO.out
   rw[hacc] at ho
   go_wp2_with fail
   go_ret2
   exact⟨u4,rfl,ho,HB.out⟩
attribute [local go_sem] fieldFm2
theorem amongU (L:ByteArray) (W:List (List UInt8)) (hL:splitC 32 L.data.toList=W) (hLs:L.size≤1000) (T:ByteArray):∀(W':World) (b:Nat),Gc W'→W'.cell? ⟨b,3,none⟩=some (.string T)→
  Calls Tryz.prog 120 #[.string L,.pointer (some ⟨b,0,none⟩)] W' fun e w'=>e= .returned (.bool (amongB W T.data.toList))∧Below W'.heap.size W' w':=fun _W' _b hG hc=>among_any L W hL hLs hG (T:=T.data.toList) hc
theorem says_k12 (x:Ci) (h:(formOf x.op).text=12) (hs:x.text.size≤4000000000):SaysOk x:=by
 intro w hG
 have HF:=Lib.hid (forms_call x.op)
 have HR:Hid (saysB x=((intOfL x.text.data.toList).isSome)):=Lib.hid (by unfold saysB;simp only[h])
 obtain⟨F,hF⟩:∃F,formOf x.op=F:=⟨_,rfl⟩
 rw[hF] at HF h
 rw[h] at HF
 rw[HR.out]
 have HG:=Lib.hid hG
 obtain⟨T,hT⟩:∃T,x.text=T:=⟨_,rfl⟩
 rw[hT] at hs⊢
 simp only[insV]
 rw[hT]
 obtain⟨A,hA⟩:∃A,x.a=A:=⟨_,rfl⟩
 try rw[hA]
 have hmf:∀(fn:Fn) (first cap:Array Value) (w:World),(Instr.makeFunc fn first cap).run Tryz.prog w= .ok (.func fn first cap) w:=fun _ _ _ _=>rfl
 have hcall:∀(v u:Value) (w':World),(callFunc 120 #[v,u]).run Tryz.prog w'= .ok (.enter 120 #[v,u]) w':=fun v u w'=>enters_of Tryz.func120 (by kernel_rfl) rfl _ _
 clear hF h hT hA hG HR
 go_enter Tryz.func82,Tryz.ntmps82
 go_wp2_with (first
  |(go_at_call 44;refine(HF.out _).mono ?_;rintro e w4 ⟨rfl,hb4⟩;have hx:=(hb4.block w.heap.size (by simp)).trans (heap_alloc_new w _);have z1:=cell_of_row w4 _ 1 _ _ _ hx;have z3:=cell_of_row w4 _ 3 _ _ _ hx;simp only[gq] at z1 z3;have HB:Hid (Below w.heap.size w w4):=Lib.hid (((Below.refl w.heap.size w).alloc (Nat.le_refl _) _).trans (hb4.mono (by simp)));have HG4:=Lib.hid (HG.out.up HB.out);clear hx hb4)
  |(go_at_call 121;refine(digits_any HG4.out T (by omega)).mono ?_;rintro e w5 ⟨rfl,hb5⟩))
 go_ret
 exact⟨ret_bool rfl,HB.out.trans (hb5.mono HB.out.size)⟩
theorem says_k13 (x:Ci) (h:(formOf x.op).text=13) (hs:x.text.size≤4000000000):SaysOk x:=by
 intro w hG
 have HF:=Lib.hid (forms_call x.op)
 have HR:Hid (saysB x=(floatBitsB x.text.data.toList)):=Lib.hid (by unfold saysB;simp only[h])
 obtain⟨F,hF⟩:∃F,formOf x.op=F:=⟨_,rfl⟩
 rw[hF] at HF h
 rw[h] at HF
 rw[HR.out]
 have HG:=Lib.hid hG
 obtain⟨T,hT⟩:∃T,x.text=T:=⟨_,rfl⟩
 rw[hT] at hs⊢
 simp only[insV]
 rw[hT]
 obtain⟨A,hA⟩:∃A,x.a=A:=⟨_,rfl⟩
 try rw[hA]
 have hmf:∀(fn:Fn) (first cap:Array Value) (w:World),(Instr.makeFunc fn first cap).run Tryz.prog w= .ok (.func fn first cap) w:=fun _ _ _ _=>rfl
 have hcall:∀(v u:Value) (w':World),(callFunc 120 #[v,u]).run Tryz.prog w'= .ok (.enter 120 #[v,u]) w':=fun v u w'=>enters_of Tryz.func120 (by kernel_rfl) rfl _ _
 clear hF h hT hA hG HR
 go_enter Tryz.func82,Tryz.ntmps82
 go_wp2_with (first
  |(go_at_call 44;refine(HF.out _).mono ?_;rintro e w4 ⟨rfl,hb4⟩;have hx:=(hb4.block w.heap.size (by simp)).trans (heap_alloc_new w _);have z1:=cell_of_row w4 _ 1 _ _ _ hx;have z3:=cell_of_row w4 _ 3 _ _ _ hx;simp only[gq] at z1 z3;have HB:Hid (Below w.heap.size w w4):=Lib.hid (((Below.refl w.heap.size w).alloc (Nat.le_refl _) _).trans (hb4.mono (by simp)));have HG4:=Lib.hid (HG.out.up HB.out);clear hx hb4)
  |(go_at_call 122;refine(float_any T.data.toList hs w4 HG4.out).mono ?_;rintro e w5 ⟨rfl,hb5⟩))
 go_ret
 exact⟨ret_bool rfl,HB.out.trans (hb5.mono HB.out.size)⟩
theorem says_k14 (x:Ci) (h:(formOf x.op).text=14) (hs:x.text.size≤4000000000):SaysOk x:=by
 intro w hG
 have HF:=Lib.hid (forms_call x.op)
 have HR:Hid (saysB x=(decide (x.text.data.toList.length≤65536))):=Lib.hid (by unfold saysB;simp only[h])
 obtain⟨F,hF⟩:∃F,formOf x.op=F:=⟨_,rfl⟩
 rw[hF] at HF h
 rw[h] at HF
 rw[HR.out]
 have HG:=Lib.hid hG
 obtain⟨T,hT⟩:∃T,x.text=T:=⟨_,rfl⟩
 rw[hT] at hs⊢
 simp only[insV]
 rw[hT]
 obtain⟨A,hA⟩:∃A,x.a=A:=⟨_,rfl⟩
 try rw[hA]
 have hmf:∀(fn:Fn) (first cap:Array Value) (w:World),(Instr.makeFunc fn first cap).run Tryz.prog w= .ok (.func fn first cap) w:=fun _ _ _ _=>rfl
 have hcall:∀(v u:Value) (w':World),(callFunc 120 #[v,u]).run Tryz.prog w'= .ok (.enter 120 #[v,u]) w':=fun v u w'=>enters_of Tryz.func120 (by kernel_rfl) rfl _ _
 clear hF h hT hA hG HR
 go_enter Tryz.func82,Tryz.ntmps82
 go_wp2_with (first
  |(go_at_call 44;refine(HF.out _).mono ?_;rintro e w4 ⟨rfl,hb4⟩;have hx:=(hb4.block w.heap.size (by simp)).trans (heap_alloc_new w _);have z1:=cell_of_row w4 _ 1 _ _ _ hx;have z3:=cell_of_row w4 _ 3 _ _ _ hx;simp only[gq] at z1 z3;have HB:Hid (Below w.heap.size w w4):=Lib.hid (((Below.refl w.heap.size w).alloc (Nat.le_refl _) _).trans (hb4.mono (by simp)));have HG4:=Lib.hid (HG.out.up HB.out);clear hx hb4))
 go_ret
 refine⟨ret_bool ?_,HB.out⟩
 have e:T.data.toList.length=T.size:=rfl
 rw[e,Bool.eq_iff_iff]
 simp
 try omega
theorem says_k15 (x:Ci) (h:(formOf x.op).text=15) (hs:x.text.size≤4000000000):SaysOk x:=by
 intro w hG
 have HF:=Lib.hid (forms_call x.op)
 have HR:Hid (saysB x=(typedB x.text.data.toList (x.a==1) false)):=Lib.hid (by unfold saysB;simp only[h])
 obtain⟨F,hF⟩:∃F,formOf x.op=F:=⟨_,rfl⟩
 rw[hF] at HF h
 rw[h] at HF
 rw[HR.out]
 have HG:=Lib.hid hG
 obtain⟨T,hT⟩:∃T,x.text=T:=⟨_,rfl⟩
 rw[hT] at hs⊢
 simp only[insV]
 rw[hT]
 obtain⟨A,hA⟩:∃A,x.a=A:=⟨_,rfl⟩
 try rw[hA]
 have hmf:∀(fn:Fn) (first cap:Array Value) (w:World),(Instr.makeFunc fn first cap).run Tryz.prog w= .ok (.func fn first cap) w:=fun _ _ _ _=>rfl
 have hcall:∀(v u:Value) (w':World),(callFunc 120 #[v,u]).run Tryz.prog w'= .ok (.enter 120 #[v,u]) w':=fun v u w'=>enters_of Tryz.func120 (by kernel_rfl) rfl _ _
 clear hF h hT hA hG HR
 go_enter Tryz.func82,Tryz.ntmps82
 go_wp2_with (first
  |(go_at_call 44;refine(HF.out _).mono ?_;rintro e w4 ⟨rfl,hb4⟩;have hx:=(hb4.block w.heap.size (by simp)).trans (heap_alloc_new w _);have z1:=cell_of_row w4 _ 1 _ _ _ hx;have z3:=cell_of_row w4 _ 3 _ _ _ hx;simp only[gq] at z1 z3;have HB:Hid (Below w.heap.size w w4):=Lib.hid (((Below.refl w.heap.size w).alloc (Nat.le_refl _) _).trans (hb4.mono (by simp)));have HG4:=Lib.hid (HG.out.up HB.out);clear hx hb4)
  |(go_at_call 123;refine(typed_any T.data.toList (A==1) false w4 HG4.out hs).mono ?_;rintro e w5 ⟨rfl,hb5⟩))
 go_ret
 exact⟨ret_bool rfl,HB.out.trans (hb5.mono HB.out.size)⟩
theorem says_k16 (x:Ci) (h:(formOf x.op).text=16) (_hs:x.text.size≤4000000000):SaysOk x:=by
 intro w hG
 have HF:=Lib.hid (forms_call x.op)
 have HR:Hid (saysB x=(amongB unaryW x.text.data.toList)):=Lib.hid (by unfold saysB;simp only[h])
 obtain⟨F,hF⟩:∃F,formOf x.op=F:=⟨_,rfl⟩
 rw[hF] at HF h
 rw[h] at HF
 rw[HR.out]
 have HG:=Lib.hid hG
 obtain⟨T,hT⟩:∃T,x.text=T:=⟨_,rfl⟩
 rw[hT]
 simp only[insV]
 rw[hT]
 obtain⟨A,hA⟩:∃A,x.a=A:=⟨_,rfl⟩
 try rw[hA]
 have hmf:∀(fn:Fn) (first cap:Array Value) (w:World),(Instr.makeFunc fn first cap).run Tryz.prog w= .ok (.func fn first cap) w:=fun _ _ _ _=>rfl
 have hcall:∀(v u:Value) (w':World),(callFunc 120 #[v,u]).run Tryz.prog w'= .ok (.enter 120 #[v,u]) w':=fun v u w'=>enters_of Tryz.func120 (by kernel_rfl) rfl _ _
 clear hF h hT hA hG HR
 go_enter Tryz.func82,Tryz.ntmps82
 go_wp2_with (first
  |(go_at_call 44;refine(HF.out _).mono ?_;rintro e w4 ⟨rfl,hb4⟩;have hx:=(hb4.block w.heap.size (by simp)).trans (heap_alloc_new w _);have z1:=cell_of_row w4 _ 1 _ _ _ hx;have z3:=cell_of_row w4 _ 3 _ _ _ hx;simp only[gq] at z1 z3;have HB:Hid (Below w.heap.size w w4):=Lib.hid (((Below.refl w.heap.size w).alloc (Nat.le_refl _) _).trans (hb4.mono (by simp)));have HG4:=Lib.hid (HG.out.up HB.out);clear hx hb4)
  |(go_at_call 120;refine(amongU ⟨#[45,32,33,32,94,32,42,32,43,43,32,45,45]⟩ unaryW (by kernel_rfl) (by decide) T w4 _ HG4.out z3).mono ?_;rintro e w5 ⟨rfl,hb5⟩))
 go_ret
 exact⟨ret_bool rfl,HB.out.trans (hb5.mono HB.out.size)⟩
theorem says_k17 (x:Ci) (h:(formOf x.op).text=17) (_hs:x.text.size≤4000000000):SaysOk x:=by
 intro w hG
 have HF:=Lib.hid (forms_call x.op)
 have HR:Hid (saysB x=(amongB binaryW x.text.data.toList)):=Lib.hid (by unfold saysB;simp only[h])
 obtain⟨F,hF⟩:∃F,formOf x.op=F:=⟨_,rfl⟩
 rw[hF] at HF h
 rw[h] at HF
 rw[HR.out]
 have HG:=Lib.hid hG
 obtain⟨T,hT⟩:∃T,x.text=T:=⟨_,rfl⟩
 rw[hT]
 simp only[insV]
 rw[hT]
 obtain⟨A,hA⟩:∃A,x.a=A:=⟨_,rfl⟩
 try rw[hA]
 have hmf:∀(fn:Fn) (first cap:Array Value) (w:World),(Instr.makeFunc fn first cap).run Tryz.prog w= .ok (.func fn first cap) w:=fun _ _ _ _=>rfl
 have hcall:∀(v u:Value) (w':World),(callFunc 120 #[v,u]).run Tryz.prog w'= .ok (.enter 120 #[v,u]) w':=fun v u w'=>enters_of Tryz.func120 (by kernel_rfl) rfl _ _
 clear hF h hT hA hG HR
 go_enter Tryz.func82,Tryz.ntmps82
 go_wp2_with (first
  |(go_at_call 44;refine(HF.out _).mono ?_;rintro e w4 ⟨rfl,hb4⟩;have hx:=(hb4.block w.heap.size (by simp)).trans (heap_alloc_new w _);have z1:=cell_of_row w4 _ 1 _ _ _ hx;have z3:=cell_of_row w4 _ 3 _ _ _ hx;simp only[gq] at z1 z3;have HB:Hid (Below w.heap.size w w4):=Lib.hid (((Below.refl w.heap.size w).alloc (Nat.le_refl _) _).trans (hb4.mono (by simp)));have HG4:=Lib.hid (HG.out.up HB.out);clear hx hb4)
  |(go_at_call 120;refine(amongU ⟨#[43,32,45,32,42,32,47,32,37,32,38,32,124,32,94,32,60,60,32,62,62,32,61,61,32,33,61,32,60,32,60,61,32,62,32,62,61]⟩ binaryW (by kernel_rfl) (by decide) T w4 _ HG4.out z3).mono ?_;rintro e w5 ⟨rfl,hb5⟩))
 go_ret
 exact⟨ret_bool rfl,HB.out.trans (hb5.mono HB.out.size)⟩
theorem says_k18 (x:Ci) (h:(formOf x.op).text=18) (_hs:x.text.size≤4000000000):SaysOk x:=by
 intro w hG
 have HF:=Lib.hid (forms_call x.op)
 have HR:Hid (saysB x=(amongB truthW x.text.data.toList)):=Lib.hid (by unfold saysB;simp only[h])
 obtain⟨F,hF⟩:∃F,formOf x.op=F:=⟨_,rfl⟩
 rw[hF] at HF h
 rw[h] at HF
 rw[HR.out]
 have HG:=Lib.hid hG
 obtain⟨T,hT⟩:∃T,x.text=T:=⟨_,rfl⟩
 rw[hT]
 simp only[insV]
 rw[hT]
 obtain⟨A,hA⟩:∃A,x.a=A:=⟨_,rfl⟩
 try rw[hA]
 have hmf:∀(fn:Fn) (first cap:Array Value) (w:World),(Instr.makeFunc fn first cap).run Tryz.prog w= .ok (.func fn first cap) w:=fun _ _ _ _=>rfl
 have hcall:∀(v u:Value) (w':World),(callFunc 120 #[v,u]).run Tryz.prog w'= .ok (.enter 120 #[v,u]) w':=fun v u w'=>enters_of Tryz.func120 (by kernel_rfl) rfl _ _
 clear hF h hT hA hG HR
 go_enter Tryz.func82,Tryz.ntmps82
 go_wp2_with (first
  |(go_at_call 44;refine(HF.out _).mono ?_;rintro e w4 ⟨rfl,hb4⟩;have hx:=(hb4.block w.heap.size (by simp)).trans (heap_alloc_new w _);have z1:=cell_of_row w4 _ 1 _ _ _ hx;have z3:=cell_of_row w4 _ 3 _ _ _ hx;simp only[gq] at z1 z3;have HB:Hid (Below w.heap.size w w4):=Lib.hid (((Below.refl w.heap.size w).alloc (Nat.le_refl _) _).trans (hb4.mono (by simp)));have HG4:=Lib.hid (HG.out.up HB.out);clear hx hb4)
  |(go_at_call 120;refine(amongU ⟨#[38,38,32,124,124]⟩ truthW (by kernel_rfl) (by decide) T w4 _ HG4.out z3).mono ?_;rintro e w5 ⟨rfl,hb5⟩))
 go_ret
 exact⟨ret_bool rfl,HB.out.trans (hb5.mono HB.out.size)⟩
theorem says_k24 (x:Ci) (h:(formOf x.op).text=24) (_hs:x.text.size≤4000000000):SaysOk x:=by
 intro w hG
 have HF:=Lib.hid (forms_call x.op)
 have HR:Hid (saysB x=(amongB builtW x.text.data.toList)):=Lib.hid (by unfold saysB;simp only[h])
 obtain⟨F,hF⟩:∃F,formOf x.op=F:=⟨_,rfl⟩
 rw[hF] at HF h
 rw[h] at HF
 rw[HR.out]
 have HG:=Lib.hid hG
 obtain⟨T,hT⟩:∃T,x.text=T:=⟨_,rfl⟩
 rw[hT]
 simp only[insV]
 rw[hT]
 obtain⟨A,hA⟩:∃A,x.a=A:=⟨_,rfl⟩
 try rw[hA]
 have hmf:∀(fn:Fn) (first cap:Array Value) (w:World),(Instr.makeFunc fn first cap).run Tryz.prog w= .ok (.func fn first cap) w:=fun _ _ _ _=>rfl
 have hcall:∀(v u:Value) (w':World),(callFunc 120 #[v,u]).run Tryz.prog w'= .ok (.enter 120 #[v,u]) w':=fun v u w'=>enters_of Tryz.func120 (by kernel_rfl) rfl _ _
 clear hF h hT hA hG HR
 go_enter Tryz.func82,Tryz.ntmps82
 go_wp2_with (first
  |(go_at_call 44;refine(HF.out _).mono ?_;rintro e w4 ⟨rfl,hb4⟩;have hx:=(hb4.block w.heap.size (by simp)).trans (heap_alloc_new w _);have z1:=cell_of_row w4 _ 1 _ _ _ hx;have z3:=cell_of_row w4 _ 3 _ _ _ hx;simp only[gq] at z1 z3;have HB:Hid (Below w.heap.size w w4):=Lib.hid (((Below.refl w.heap.size w).alloc (Nat.le_refl _) _).trans (hb4.mono (by simp)));have HG4:=Lib.hid (HG.out.up HB.out);clear hx hb4)
  |(go_at_call 120;refine(amongU ⟨#[97,112,112,101,110,100,32,99,97,112,32,99,111,112,121,32,100,101,108,101,116,101,32,108,101,110,32,109,97,107,101,32,112,97,110,105,99,32,112,114,105,110,116,32,114,101,99,111,118,101,114,32,115,104,111,119,32,116,121,112,101,111,102]⟩ builtW (by kernel_rfl) (by decide) T w4 _ HG4.out z3).mono ?_;rintro e w5 ⟨rfl,hb5⟩))
 go_ret
 exact⟨ret_bool rfl,HB.out.trans (hb5.mono HB.out.size)⟩
theorem says_k19 (x:Ci) (h:(formOf x.op).text=19) (hs:x.text.size≤4000000000):SaysOk x:=by
 intro w hG
 have HF:=Lib.hid (forms_call x.op)
 have HR:Hid (saysB x=(typedB x.text.data.toList false false)):=Lib.hid (by unfold saysB;simp only[h])
 obtain⟨F,hF⟩:∃F,formOf x.op=F:=⟨_,rfl⟩
 rw[hF] at HF h
 rw[h] at HF
 rw[HR.out]
 have HG:=Lib.hid hG
 obtain⟨T,hT⟩:∃T,x.text=T:=⟨_,rfl⟩
 rw[hT] at hs⊢
 simp only[insV]
 rw[hT]
 obtain⟨A,hA⟩:∃A,x.a=A:=⟨_,rfl⟩
 try rw[hA]
 have hmf:∀(fn:Fn) (first cap:Array Value) (w:World),(Instr.makeFunc fn first cap).run Tryz.prog w= .ok (.func fn first cap) w:=fun _ _ _ _=>rfl
 have hcall:∀(v u:Value) (w':World),(callFunc 120 #[v,u]).run Tryz.prog w'= .ok (.enter 120 #[v,u]) w':=fun v u w'=>enters_of Tryz.func120 (by kernel_rfl) rfl _ _
 clear hF h hT hA hG HR
 go_enter Tryz.func82,Tryz.ntmps82
 go_wp2_with (first
  |(go_at_call 44;refine(HF.out _).mono ?_;rintro e w4 ⟨rfl,hb4⟩;have hx:=(hb4.block w.heap.size (by simp)).trans (heap_alloc_new w _);have z1:=cell_of_row w4 _ 1 _ _ _ hx;have z3:=cell_of_row w4 _ 3 _ _ _ hx;simp only[gq] at z1 z3;have HB:Hid (Below w.heap.size w w4):=Lib.hid (((Below.refl w.heap.size w).alloc (Nat.le_refl _) _).trans (hb4.mono (by simp)));have HG4:=Lib.hid (HG.out.up HB.out);clear hx hb4)
  |(go_at_call 123;refine(typed_any T.data.toList false false w4 HG4.out hs).mono ?_;rintro e w5 ⟨rfl,hb5⟩))
 go_ret
 exact⟨ret_bool rfl,HB.out.trans (hb5.mono HB.out.size)⟩
theorem says_k20 (x:Ci) (h:(formOf x.op).text=20) (hs:x.text.size≤4000000000):SaysOk x:=by
 intro w hG
 have HF:=Lib.hid (forms_call x.op)
 have HR:Hid (saysB x=(nameL x.text.data.toList)):=Lib.hid (by unfold saysB;simp only[h])
 obtain⟨F,hF⟩:∃F,formOf x.op=F:=⟨_,rfl⟩
 rw[hF] at HF h
 rw[h] at HF
 rw[HR.out]
 have HG:=Lib.hid hG
 obtain⟨T,hT⟩:∃T,x.text=T:=⟨_,rfl⟩
 rw[hT] at hs⊢
 simp only[insV]
 rw[hT]
 obtain⟨A,hA⟩:∃A,x.a=A:=⟨_,rfl⟩
 try rw[hA]
 have hmf:∀(fn:Fn) (first cap:Array Value) (w:World),(Instr.makeFunc fn first cap).run Tryz.prog w= .ok (.func fn first cap) w:=fun _ _ _ _=>rfl
 have hcall:∀(v u:Value) (w':World),(callFunc 120 #[v,u]).run Tryz.prog w'= .ok (.enter 120 #[v,u]) w':=fun v u w'=>enters_of Tryz.func120 (by kernel_rfl) rfl _ _
 clear hF h hT hA hG HR
 go_enter Tryz.func82,Tryz.ntmps82
 go_wp2_with (first
  |(go_at_call 44;refine(HF.out _).mono ?_;rintro e w4 ⟨rfl,hb4⟩;have hx:=(hb4.block w.heap.size (by simp)).trans (heap_alloc_new w _);have z1:=cell_of_row w4 _ 1 _ _ _ hx;have z3:=cell_of_row w4 _ 3 _ _ _ hx;simp only[gq] at z1 z3;have HB:Hid (Below w.heap.size w w4):=Lib.hid (((Below.refl w.heap.size w).alloc (Nat.le_refl _) _).trans (hb4.mono (by simp)));have HG4:=Lib.hid (HG.out.up HB.out);clear hx hb4)
  |(go_at_call 76;refine(named_any T w4 HG4.out (by omega)).mono ?_;rintro e w5 ⟨rfl,hb5⟩))
 go_ret
 exact⟨ret_bool rfl,HB.out.trans (hb5.mono HB.out.size)⟩
theorem says_k21 (x:Ci) (h:(formOf x.op).text=21) (hs:x.text.size≤4000000000):SaysOk x:=by
 intro w hG
 have HF:=Lib.hid (forms_call x.op)
 have HR:Hid (saysB x=(namesB x.text.data.toList 2)):=Lib.hid (by unfold saysB;simp only[h])
 obtain⟨F,hF⟩:∃F,formOf x.op=F:=⟨_,rfl⟩
 rw[hF] at HF h
 rw[h] at HF
 rw[HR.out]
 have HG:=Lib.hid hG
 obtain⟨T,hT⟩:∃T,x.text=T:=⟨_,rfl⟩
 rw[hT] at hs⊢
 simp only[insV]
 rw[hT]
 obtain⟨A,hA⟩:∃A,x.a=A:=⟨_,rfl⟩
 try rw[hA]
 have hmf:∀(fn:Fn) (first cap:Array Value) (w:World),(Instr.makeFunc fn first cap).run Tryz.prog w= .ok (.func fn first cap) w:=fun _ _ _ _=>rfl
 have hcall:∀(v u:Value) (w':World),(callFunc 120 #[v,u]).run Tryz.prog w'= .ok (.enter 120 #[v,u]) w':=fun v u w'=>enters_of Tryz.func120 (by kernel_rfl) rfl _ _
 clear hF h hT hA hG HR
 go_enter Tryz.func82,Tryz.ntmps82
 go_wp2_with (first
  |(go_at_call 44;refine(HF.out _).mono ?_;rintro e w4 ⟨rfl,hb4⟩;have hx:=(hb4.block w.heap.size (by simp)).trans (heap_alloc_new w _);have z1:=cell_of_row w4 _ 1 _ _ _ hx;have z3:=cell_of_row w4 _ 3 _ _ _ hx;simp only[gq] at z1 z3;have HB:Hid (Below w.heap.size w w4):=Lib.hid (((Below.refl w.heap.size w).alloc (Nat.le_refl _) _).trans (hb4.mono (by simp)));have HG4:=Lib.hid (HG.out.up HB.out);clear hx hb4)
  |(go_at_call 124;refine(names_any T.data.toList 2 w4 HG4.out hs).mono ?_;rintro e w5 ⟨rfl,hb5⟩))
 go_ret
 exact⟨ret_bool rfl,HB.out.trans (hb5.mono HB.out.size)⟩
theorem says_k22 (x:Ci) (h:(formOf x.op).text=22) (hs:x.text.size≤4000000000) (ha:0≤x.a∧x.a≤1000000):SaysOk x:=by
 intro w hG
 have HF:=Lib.hid (forms_call x.op)
 have HR:Hid (saysB x=(namesB x.text.data.toList (x.a+1))):=Lib.hid (by unfold saysB;simp only[h])
 obtain⟨F,hF⟩:∃F,formOf x.op=F:=⟨_,rfl⟩
 rw[hF] at HF h
 rw[h] at HF
 rw[HR.out]
 have HG:=Lib.hid hG
 obtain⟨T,hT⟩:∃T,x.text=T:=⟨_,rfl⟩
 rw[hT] at hs⊢
 simp only[insV]
 rw[hT]
 obtain⟨A,hA⟩:∃A,x.a=A:=⟨_,rfl⟩
 rw[hA] at ha⊢
 have hmf:∀(fn:Fn) (first cap:Array Value) (w:World),(Instr.makeFunc fn first cap).run Tryz.prog w= .ok (.func fn first cap) w:=fun _ _ _ _=>rfl
 have hcall:∀(v u:Value) (w':World),(callFunc 120 #[v,u]).run Tryz.prog w'= .ok (.enter 120 #[v,u]) w':=fun v u w'=>enters_of Tryz.func120 (by kernel_rfl) rfl _ _
 clear hF h hT hA hG HR
 go_enter Tryz.func82,Tryz.ntmps82
 go_wp2_with (first
  |(go_at_call 44;refine(HF.out _).mono ?_;rintro e w4 ⟨rfl,hb4⟩;have hx:=(hb4.block w.heap.size (by simp)).trans (heap_alloc_new w _);have z1:=cell_of_row w4 _ 1 _ _ _ hx;have z3:=cell_of_row w4 _ 3 _ _ _ hx;simp only[gq] at z1 z3;have HB:Hid (Below w.heap.size w w4):=Lib.hid (((Below.refl w.heap.size w).alloc (Nat.le_refl _) _).trans (hb4.mono (by simp)));have HG4:=Lib.hid (HG.out.up HB.out);clear hx hb4)
  |(go_at_call 124;refine(names_any T.data.toList (A+1) w4 HG4.out hs).mono ?_;rintro e w5 ⟨rfl,hb5⟩))
 go_ret
 exact⟨ret_bool rfl,HB.out.trans (hb5.mono HB.out.size)⟩
theorem says_k23a (x:Ci) (h:(formOf x.op).text=23) (_hs:x.text.size≤4000000000) (ha:x.a=2) (he:x.text.data.toList.isEmpty=true):SaysOk x:=by
 intro w hG
 have HF:=Lib.hid (forms_call x.op)
 have HR:Hid (saysB x=((x.a==2&&x.text.data.toList.isEmpty)||(decide (x.a<2)&&typedB x.text.data.toList (x.a==1) true))):=Lib.hid (by unfold saysB;simp only[h])
 obtain⟨F,hF⟩:∃F,formOf x.op=F:=⟨_,rfl⟩
 rw[hF] at HF h
 rw[h] at HF
 rw[HR.out]
 have HG:=Lib.hid hG
 obtain⟨T,hT⟩:∃T,x.text=T:=⟨_,rfl⟩
 rw[hT]
 simp only[insV]
 rw[hT]
 obtain⟨A,hA⟩:∃A,x.a=A:=⟨_,rfl⟩
 rw[hA] at ha⊢
 rw[hT] at he
 subst ha
 have hemp:T.toList.isEmpty=true:=by rw[ByteArray.toList_eq];exact he
 rw[he]
 have hmf:∀(fn:Fn) (first cap:Array Value) (w:World),(Instr.makeFunc fn first cap).run Tryz.prog w= .ok (.func fn first cap) w:=fun _ _ _ _=>rfl
 have hcall:∀(v u:Value) (w':World),(callFunc 120 #[v,u]).run Tryz.prog w'= .ok (.enter 120 #[v,u]) w':=fun v u w'=>enters_of Tryz.func120 (by kernel_rfl) rfl _ _
 clear hF h hT hA hG HR
 go_enter Tryz.func82,Tryz.ntmps82
 go_wp2_with (first
  |(go_at_call 44;refine(HF.out _).mono ?_;rintro e w4 ⟨rfl,hb4⟩;have hx:=(hb4.block w.heap.size (by simp)).trans (heap_alloc_new w _);have z1:=cell_of_row w4 _ 1 _ _ _ hx;have z3:=cell_of_row w4 _ 3 _ _ _ hx;simp only[gq] at z1 z3;have HB:Hid (Below w.heap.size w w4):=Lib.hid (((Below.refl w.heap.size w).alloc (Nat.le_refl _) _).trans (hb4.mono (by simp)));have HG4:=Lib.hid (HG.out.up HB.out);clear hx hb4))
 go_ret
 exact⟨ret_bool rfl,HB.out⟩
theorem says_k23d (x:Ci) (h:(formOf x.op).text=23) (_hs:x.text.size≤4000000000) (ha:x.a=2) (he:x.text.data.toList.isEmpty=false):SaysOk x:=by
 intro w hG
 have HF:=Lib.hid (forms_call x.op)
 have HR:Hid (saysB x=((x.a==2&&x.text.data.toList.isEmpty)||(decide (x.a<2)&&typedB x.text.data.toList (x.a==1) true))):=Lib.hid (by unfold saysB;simp only[h])
 obtain⟨F,hF⟩:∃F,formOf x.op=F:=⟨_,rfl⟩
 rw[hF] at HF h
 rw[h] at HF
 rw[HR.out]
 have HG:=Lib.hid hG
 obtain⟨T,hT⟩:∃T,x.text=T:=⟨_,rfl⟩
 rw[hT]
 simp only[insV]
 rw[hT]
 obtain⟨A,hA⟩:∃A,x.a=A:=⟨_,rfl⟩
 rw[hA] at ha⊢
 rw[hT] at he
 subst ha
 have hemp:T.toList.isEmpty=false:=by rw[ByteArray.toList_eq];exact he
 rw[he]
 have hmf:∀(fn:Fn) (first cap:Array Value) (w:World),(Instr.makeFunc fn first cap).run Tryz.prog w= .ok (.func fn first cap) w:=fun _ _ _ _=>rfl
 have hcall:∀(v u:Value) (w':World),(callFunc 120 #[v,u]).run Tryz.prog w'= .ok (.enter 120 #[v,u]) w':=fun v u w'=>enters_of Tryz.func120 (by kernel_rfl) rfl _ _
 clear hF h hT hA hG HR
 go_enter Tryz.func82,Tryz.ntmps82
 go_wp2_with (first
  |(go_at_call 44;refine(HF.out _).mono ?_;rintro e w4 ⟨rfl,hb4⟩;have hx:=(hb4.block w.heap.size (by simp)).trans (heap_alloc_new w _);have z1:=cell_of_row w4 _ 1 _ _ _ hx;have z3:=cell_of_row w4 _ 3 _ _ _ hx;simp only[gq] at z1 z3;have HB:Hid (Below w.heap.size w w4):=Lib.hid (((Below.refl w.heap.size w).alloc (Nat.le_refl _) _).trans (hb4.mono (by simp)));have HG4:=Lib.hid (HG.out.up HB.out);clear hx hb4))
 go_ret
 exact⟨ret_bool rfl,HB.out⟩
theorem says_k23b (x:Ci) (h:(formOf x.op).text=23) (hs:x.text.size≤4000000000) (ha:x.a<2):SaysOk x:=by
 intro w hG
 have HF:=Lib.hid (forms_call x.op)
 have HR:Hid (saysB x=((x.a==2&&x.text.data.toList.isEmpty)||(decide (x.a<2)&&typedB x.text.data.toList (x.a==1) true))):=Lib.hid (by unfold saysB;simp only[h])
 obtain⟨F,hF⟩:∃F,formOf x.op=F:=⟨_,rfl⟩
 rw[hF] at HF h
 rw[h] at HF
 rw[HR.out]
 have HG:=Lib.hid hG
 obtain⟨T,hT⟩:∃T,x.text=T:=⟨_,rfl⟩
 rw[hT] at hs⊢
 simp only[insV]
 rw[hT]
 obtain⟨A,hA⟩:∃A,x.a=A:=⟨_,rfl⟩
 rw[hA] at ha⊢
 have e1:(A==2)=false:=by simp;omega
 have e2:decide (A<2)=true:=decide_eq_true ha
 rw[e1,e2]
 have hmf:∀(fn:Fn) (first cap:Array Value) (w:World),(Instr.makeFunc fn first cap).run Tryz.prog w= .ok (.func fn first cap) w:=fun _ _ _ _=>rfl
 have hcall:∀(v u:Value) (w':World),(callFunc 120 #[v,u]).run Tryz.prog w'= .ok (.enter 120 #[v,u]) w':=fun v u w'=>enters_of Tryz.func120 (by kernel_rfl) rfl _ _
 clear hF h hT hA hG HR
 go_enter Tryz.func82,Tryz.ntmps82
 go_wp2_with (first
  |(go_at_call 44;refine(HF.out _).mono ?_;rintro e w4 ⟨rfl,hb4⟩;have hx:=(hb4.block w.heap.size (by simp)).trans (heap_alloc_new w _);have z1:=cell_of_row w4 _ 1 _ _ _ hx;have z3:=cell_of_row w4 _ 3 _ _ _ hx;simp only[gq] at z1 z3;have HB:Hid (Below w.heap.size w w4):=Lib.hid (((Below.refl w.heap.size w).alloc (Nat.le_refl _) _).trans (hb4.mono (by simp)));have HG4:=Lib.hid (HG.out.up HB.out);clear hx hb4)
  |(go_at_call 123;refine(typed_any T.data.toList (A==1) true w4 HG4.out hs).mono ?_;rintro e w5 ⟨rfl,hb5⟩))
 go_ret
 exact⟨ret_bool (by simp),HB.out.trans (hb5.mono HB.out.size)⟩
theorem says_k23c (x:Ci) (h:(formOf x.op).text=23) (_hs:x.text.size≤4000000000) (ha:2<x.a):SaysOk x:=by
 intro w hG
 have HF:=Lib.hid (forms_call x.op)
 have HR:Hid (saysB x=((x.a==2&&x.text.data.toList.isEmpty)||(decide (x.a<2)&&typedB x.text.data.toList (x.a==1) true))):=Lib.hid (by unfold saysB;simp only[h])
 obtain⟨F,hF⟩:∃F,formOf x.op=F:=⟨_,rfl⟩
 rw[hF] at HF h
 rw[h] at HF
 rw[HR.out]
 have HG:=Lib.hid hG
 obtain⟨T,hT⟩:∃T,x.text=T:=⟨_,rfl⟩
 rw[hT]
 simp only[insV]
 rw[hT]
 obtain⟨A,hA⟩:∃A,x.a=A:=⟨_,rfl⟩
 rw[hA] at ha⊢
 have e1:(A==2)=false:=by simp;omega
 have e2:decide (A<2)=false:=decide_eq_false (by omega)
 rw[e1,e2]
 have hmf:∀(fn:Fn) (first cap:Array Value) (w:World),(Instr.makeFunc fn first cap).run Tryz.prog w= .ok (.func fn first cap) w:=fun _ _ _ _=>rfl
 have hcall:∀(v u:Value) (w':World),(callFunc 120 #[v,u]).run Tryz.prog w'= .ok (.enter 120 #[v,u]) w':=fun v u w'=>enters_of Tryz.func120 (by kernel_rfl) rfl _ _
 clear hF h hT hA hG HR
 go_enter Tryz.func82,Tryz.ntmps82
 go_wp2_with (first
  |(go_at_call 44;refine(HF.out _).mono ?_;rintro e w4 ⟨rfl,hb4⟩;have hx:=(hb4.block w.heap.size (by simp)).trans (heap_alloc_new w _);have z1:=cell_of_row w4 _ 1 _ _ _ hx;have z3:=cell_of_row w4 _ 3 _ _ _ hx;simp only[gq] at z1 z3;have HB:Hid (Below w.heap.size w w4):=Lib.hid (((Below.refl w.heap.size w).alloc (Nat.le_refl _) _).trans (hb4.mono (by simp)));have HG4:=Lib.hid (HG.out.up HB.out);clear hx hb4))
 go_ret
 exact⟨ret_bool (by simp),HB.out⟩
theorem says_k0 (x:Ci) (h:(formOf x.op).text=0) (_hs:x.text.size≤4000000000):SaysOk x:=by
 intro w hG
 have HF:=Lib.hid (forms_call x.op)
 have HR:Hid (saysB x=(x.text.data.toList.isEmpty)):=Lib.hid (by unfold saysB;simp only[h])
 obtain⟨F,hF⟩:∃F,formOf x.op=F:=⟨_,rfl⟩
 rw[hF] at HF h
 rw[h] at HF
 rw[HR.out]
 have HG:=Lib.hid hG
 obtain⟨T,hT⟩:∃T,x.text=T:=⟨_,rfl⟩
 rw[hT]
 simp only[insV]
 rw[hT]
 obtain⟨A,hA⟩:∃A,x.a=A:=⟨_,rfl⟩
 try rw[hA]
 have hmf:∀(fn:Fn) (first cap:Array Value) (w:World),(Instr.makeFunc fn first cap).run Tryz.prog w= .ok (.func fn first cap) w:=fun _ _ _ _=>rfl
 have hcall:∀(v u:Value) (w':World),(callFunc 120 #[v,u]).run Tryz.prog w'= .ok (.enter 120 #[v,u]) w':=fun v u w'=>enters_of Tryz.func120 (by kernel_rfl) rfl _ _
 clear hF h hT hA hG HR
 go_enter Tryz.func82,Tryz.ntmps82
 go_wp2_with (first
  |(go_at_call 44;refine(HF.out _).mono ?_;rintro e w4 ⟨rfl,hb4⟩;have hx:=(hb4.block w.heap.size (by simp)).trans (heap_alloc_new w _);have z1:=cell_of_row w4 _ 1 _ _ _ hx;have z3:=cell_of_row w4 _ 3 _ _ _ hx;simp only[gq] at z1 z3;have HB:Hid (Below w.heap.size w w4):=Lib.hid (((Below.refl w.heap.size w).alloc (Nat.le_refl _) _).trans (hb4.mono (by simp)));have HG4:=Lib.hid (HG.out.up HB.out);clear hx hb4))
 go_ret
 exact⟨ret_bool (by rw[ByteArray.toList_eq]),HB.out⟩
def TextOk (x:Ci):Prop:=x.text.size≤4000000000∧((formOf x.op).text=22→0≤x.a∧x.a≤1000000)
theorem says_kinds (op:Int):(formOf op).text=0∨(12≤(formOf op).text∧(formOf op).text≤24):=by
 unfold formOf
 split
 ·rename_i h
  obtain⟨k,rfl⟩:=Int.eq_ofNat_of_zero_le (show 0≤op by omega)
  have hk:k<54:=by omega
  have:=List.all_eq_true.mp (show((List.range 54).all fun k=>((formsT.getD k .no).text==0)||(decide (12≤(formsT.getD k .no).text)&&decide ((formsT.getD k .no).text≤24)))=true by kernel_rfl) k (List.mem_range.2 hk)
  simpa using this
 ·exact .inl rfl
theorem says_any (x:Ci) (h:TextOk x):SaysOk x:=by
 obtain⟨hs,h22⟩:=h
 rcases says_kinds x.op with h|⟨h1,h2⟩
 ·exact says_k0 x h hs
 ·obtain⟨K,hK⟩:∃K,(formOf x.op).text=K:=⟨_,rfl⟩
  rw[hK] at h1 h2 h22
  have:K=12∨K=13∨K=14∨K=15∨K=16∨K=17∨K=18∨K=19∨K=20∨K=21∨K=22∨K=23∨K=24:=by omega
  rcases this with rfl|rfl|rfl|rfl|rfl|rfl|rfl|rfl|rfl|rfl|rfl|rfl|rfl
  ·exact says_k12 x hK hs
  ·exact says_k13 x hK hs
  ·exact says_k14 x hK hs
  ·exact says_k15 x hK hs
  ·exact says_k16 x hK hs
  ·exact says_k17 x hK hs
  ·exact says_k18 x hK hs
  ·exact says_k19 x hK hs
  ·exact says_k20 x hK hs
  ·exact says_k21 x hK hs
  ·exact says_k22 x hK hs (h22 rfl)
  ·by_cases ha:x.a=2
   ·cases he:x.text.data.toList.isEmpty with
    |true=>exact says_k23a x hK hs ha he
    |false=>exact says_k23d x hK hs ha he
   ·by_cases ha2:x.a<2
    ·exact says_k23b x hK hs ha2
    ·exact says_k23c x hK hs (by omega)
  ·exact says_k24 x hK hs
section
variable {w0 W W':World} {b k:Nat} {v:Value} {bs:List UInt8} {o:Obj}
theorem BdAt.lt (h:BdAt w0 W b v bs):b<W.heap.size:=by
 obtain⟨p,_,hb⟩:=h.box
 exact(Array.getElem?_eq_some_iff.1 hb).1
theorem BxAt.lt (h:BxAt W b v k o):k<W.heap.size:=(Array.getElem?_eq_some_iff.1 h.1).1
theorem BdAt.under (h:BdAt w0 W b v bs) (hb:Below W.heap.size W W'):BdAt w0 W' b v bs:=by
 obtain⟨p,hp,hbx⟩:=h.box
 exact⟨⟨p,hp,(hb.block b h.lt).trans hbx⟩,own_keep' h.own fun g hg=>hb.block g (h.own.lt g hg).2,h.ne,h.low.trans (hb.mono h.low.size),h.lo⟩
theorem BxAt.under (h:BxAt W b v k o) (hb:Below W.heap.size W W'):BxAt W' b v k o:=⟨(hb.block k h.lt).trans h.1,h.2⟩
theorem BdAt.alloc (h:BdAt w0 W b v bs) (x:Obj):BdAt w0 (W.alloc x) b v bs:=h.under ((Below.refl _ _).alloc (Nat.le_refl _) _)
theorem BxAt.alloc (h:BxAt W b v k o) (x:Obj):BxAt (W.alloc x) b v k o:=h.under ((Below.refl _ _).alloc (Nat.le_refl _) _)
theorem BdAt.drew (h:BdAt w0 W b v bs):BdAt w0 W.drew b v bs:=⟨h.box,h.own,h.ne,⟨h.low.os,h.low.tape,h.low.output,h.low.size,h.low.block⟩,h.lo⟩
theorem BdAt.bx (h:BdAt w0 W b v bs) (x:Obj):BxAt (W.alloc x) b v W.heap.size x:=⟨heap_alloc_new _ _,fun e=>by have:=h.lt;omega,fun e=>by have:=(h.own.lt _ e).2;omega⟩
theorem BdAt.built (h:BdAt w0 W b v bs) (o:Obj):∃Wn rn,W.alloc o=Wn∧W.heap.size=rn∧BdAt w0 Wn b v bs∧BxAt Wn b v rn o∧∀k p,BxAt W b v k p→BxAt Wn b v k p:=
 ⟨_,_,rfl,rfl,h.alloc o,h.bx o,fun _ _ hx=>hx.alloc o⟩
theorem BdAt.row (_:BdAt w0 W b v bs) {cs xs:List Value} {t:TypeId} {fr:Nat×Nat} (hx:BxAt W b v k (.cells cs.toArray t fr)) (he:cs=xs):RowIs W W.heap.size (some ⟨k,0,none⟩) xs:=by
 subst he
 refine .inr ⟨k,0,rfl,hx.lt,fun j u hj=> ?_⟩
 rw[Nat.zero_add,cell_of_row W k j _ _ _ hx.1,List.getElem?_toArray,hj]
end
section
variable {P:Program} (w:World)
theorem run_append_nothing (t ty e:TypeId) (i:TypeInfo) (ht:P.underlying t=some (.slice e)) (hi:P.info? e=some i) (b:Addr) (n c:Nat) (hnc:n≤c) (ga:Option Addr) (gc:Nat):
  (Builtin.append_ #[t,t] ty #[.slice (some b) n c,.slice ga 0 gc]).run P w= .ok (.slice (some b) n c) w:=by
 have hf:(Builtin.firstCells i.size 0 (.slice ga 0 gc)).run P w= .ok #[] w:=by
  cases ga with
  |none=>exact run_firstCells_none w i.size 0 0 gc
  |some a=>exact run_firstCells_some w i.size 0 a 0 gc [] (by simp) (fun j v h=>by cases h)
 simp[Builtin.append_,run_underlying ht,sizeOf,typeInfo,hi,Builtin.lenOf,hnc,hf,storeCells]
end
theorem cat_nl (x:List UInt8):(⟨⟨x⟩⟩++⟨#[10]⟩:ByteArray).data.toList=x++ [10]:=by simp
theorem bd_new {w0 W:World} (hl:Below w0.heap.size w0 W):BdAt w0 (W.alloc (.cells #[.pointer none,.slice none 0 0] 80 (0,0))) W.heap.size (.slice none 0 0) []:=
 ⟨⟨_,.inl rfl,heap_alloc_new _ _⟩,World.ownsRow_nil _ _ _ _,by simp[Value.ownBlock],hl.alloc hl.size _,hl.size⟩
theorem words_len (t:List UInt8) (l:List Int) (h:∀n∈l,okI n):(wordsL t l).length≤t.length+22*l.length:=by
 induction l generalizing t with
 |nil=>simp[words_nil]
 |cons a l ih=>
  rw[words_step]
  have h1:=ih (t++32::Lib.itoa a) fun n hn=>h n (List.mem_cons_of_mem _ hn)
  obtain⟨ha,hb⟩:=h a (List.mem_cons_self ..)
  have h2:=Lib.itoa_length_le a ha hb
  simp only[List.length_append,List.length_cons] at h1⊢
  omega
theorem BdAt.isB {w0 W:World} {b:Nat} {v:Value} {bs:List UInt8} (h:BdAt w0 W b v bs):Lib.IsBuilder 80 5 w0.heap.size b (Lib.byteCells bs) W:=by
 obtain⟨p,hp,hb⟩:=h.box
 have ho:W.ownsRow w0.heap.size 5 1 v (Lib.byteCells bs).length (Lib.byteCells bs):=by
  have:=h.own
  rwa [show(Lib.byteCells bs).length=bs.length by simp[Lib.byteCells]]
 rcases hp with rfl|rfl
 ·exact .inl ⟨h.lo,v,hb,ho,h.ne⟩
 ·exact .inr ⟨h.lo,v,hb,ho,h.ne⟩
attribute [local go_sem] fieldFm0
end Go.Proofs.YtagnicbknbmccaaGreatDoor
