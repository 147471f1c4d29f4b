/- code.typed; strings.Split at a blank; code.says$1 (among); code.names. code.names: so many names, a blank between, those behind the first all unlike. code.float: is a text a float's bits. code.many of any program that is not too great for an int. -/
import Derived.Lib.SplitLaws
import Derived.Test.YtagnicbknbmccaaGreatDoorMCwF
import Derived.Test.YtagnicbknbmccaaGreatDoorSqC
import Derived.Test.YtagnicbknbmccaaGreatDoorMCwG
import Derived.Test.YtagnicbknbmccaaGreatDoorMCwV
import Derived.Test.YtagnicbknbmccaaGreatDoorMCzK
import Derived.Test.YtagnicbknbmccaaGreatDoorMCzE
set_option maxRecDepth 100000
set_option maxHeartbeats 4000000
namespace Go.Proofs.YtagnicbknbmccaaGreatDoor
open Go.RowKit
theorem typed_any (s:List UInt8) (p a:Bool) (w:World) (h:Gc w) (hs:s.length≤4000000000):Calls Tryz.prog 123 #[.string ⟨⟨s⟩⟩,.bool p,.bool a] w fun e w'=>e= .returned (.bool (typedB s p a))∧Below w.heap.size w w':=by
 have HN:Hid (Calls Tryz.prog 76 #[.string ⟨⟨s⟩⟩] w fun e w'=>e= .returned (.bool (nameL s))∧Below w.heap.size w w'):=Lib.hid (named_any ⟨⟨s⟩⟩ w h (by show s.length≤_;omega))
 have HR:Hid (typedB s p a=(nameL s||(!p&&(s==[109,97,112]||s==[102,117,110,99]||(a&&s==[97,110,121]))))):=Lib.hid rfl
 clear h
 go_enter Tryz.func123,Tryz.ntmps123
 cases e0:nameL s<;>rw[e0] at HN HR
 ·cases p
  ·cases e1:(s==[109,97,112])<;>rw[e1] at HR
   ·cases e2:(s==[102,117,110,99])<;>rw[e2] at HR
    ·cases a<;>rw[HR.out]<;>clear HR
     all_goals
      go_wp2_with (go_at_call 76;refine HN.out.mono ?_;rintro e w' ⟨rfl,hb⟩)
      go_ret
      exact⟨ret_bool (by first|rfl|simp_all),hb⟩
    ·rw[HR.out]
     clear HR
     go_wp2_with (go_at_call 76;refine HN.out.mono ?_;rintro e w' ⟨rfl,hb⟩)
     go_ret
     exact⟨ret_bool (by first|rfl|simp_all),hb⟩
   ·rw[HR.out]
    clear HR
    go_wp2_with (go_at_call 76;refine HN.out.mono ?_;rintro e w' ⟨rfl,hb⟩)
    go_ret
    exact⟨ret_bool (by first|rfl|simp_all),hb⟩
  ·rw[HR.out]
   clear HR
   go_wp2_with (go_at_call 76;refine HN.out.mono ?_;rintro e w' ⟨rfl,hb⟩)
   go_ret
   exact⟨ret_bool (by first|rfl|simp_all),hb⟩
 ·rw[HR.out]
  clear HR
  go_wp2_with (go_at_call 76;refine HN.out.mono ?_;rintro e w' ⟨rfl,hb⟩)
  go_ret
  exact⟨ret_bool (by first|rfl|simp_all),hb⟩
theorem part_len (c:UInt8):∀(s:List UInt8) (t:List UInt8),t∈splitC c s→t.length≤s.length
 | [],t,h=>by
  rw[splitC,List.mem_singleton] at h
  rw[h];exact Nat.le_refl _
 |x::r,t,h=>by
  rw[splitC] at h
  by_cases hx:x=c
  ·rw[if_pos hx,List.mem_cons] at h
   rcases h with rfl|h
   ·exact Nat.zero_le _
   ·exact Nat.le_succ_of_le (part_len c r t h)
  ·rw[if_neg hx] at h
   have ih:=part_len c r
   cases hs:splitC c r with
   |nil=>
    rw[hs] at h
    rw[List.mem_singleton.1 h]
    simp
   |cons y ys=>
    rw[hs] at h ih
    rcases List.mem_cons.1 h with rfl|h
    ·have:=ih y (List.mem_cons_self ..)
     simp only[List.length_cons];omega
    ·exact Nat.le_succ_of_le (ih t (List.mem_cons_of_mem _ h))
theorem split32 (S:ByteArray) (hs:S.size≤4000000000):∃xs:List ByteArray,xs.map (fun x=>x.data.toList)=splitC 32 S.data.toList∧(∀x∈xs,x.size≤S.size)∧xs.length≤S.size+1∧
  ∀V,Gc V→Calls Tryz.prog 108 #[.string S,.string ⟨#[32]⟩] V fun e V'=>e= .returned (.slice (some ⟨V.heap.size,0,none⟩) xs.length xs.length)∧V'=V.alloc (.cells (xs.map Value.string).toArray 9):=by
 have h1:=split_one S 32
 have hc:Lib.countB S ⟨#[32]⟩≤S.size:=by
  unfold Lib.countB
  rw[show(⟨#[32]⟩:ByteArray).data.toList=[32] from rfl,Lib.count_one]
  exact List.count_le_length
 refine⟨_,h1,fun x hx=> ?_, ?_,fun V hV=> ?_⟩
 ·have hm:x.data.toList∈splitC 32 S.data.toList:=by rw[←h1];exact List.mem_map_of_mem hx
  exact part_len 32 _ _ hm
 ·rw[Lib.splitB_all ⟨#[32]⟩ (by decide) 0 _ S rfl];omega
 ·obtain⟨m,hm⟩:=hV.max
  refine(Tryz.strings_Split S ⟨#[32]⟩ m V (by omega) hm (by decide)).mono ?_
  rintro e V' ⟨rfl,rfl⟩
  rw[Lib.splitB_all ⟨#[32]⟩ (by decide) 0 _ S rfl]
  exact⟨rfl,rfl⟩
theorem among_any (L:ByteArray) (W:List (List UInt8)) (hL:splitC 32 L.data.toList=W) (hLs:L.size≤1000) {w:World} (hG:Gc w) {b:Nat} {T:List UInt8} (hc:w.cell? ⟨b,3,none⟩=some (.string ⟨⟨T⟩⟩)):
  Calls Tryz.prog 120 #[.string L,.pointer (some ⟨b,0,none⟩)] w fun e w'=>e= .returned (.bool (amongB W T))∧Below w.heap.size w w':=by
 obtain⟨xs,h1,h2,h3,h4⟩:=split32 L (by omega)
 have hbw:=World.block_lt_of_cell? w _ hc
 dsimp only at hbw
 have HS:=Lib.hid h4
 have HA:Hid (amongB W T=(!T.isEmpty&&xs.any (fun x=>(⟨⟨T⟩⟩:ByteArray).toList==x.toList))):=Lib.hid (by
  unfold amongB
  congr 1
  rw[←hL,←h1,List.any_map]
  congr 1
  funext x
  rw[ByteArray.toList_eq,ByteArray.toList_eq,Function.comp_apply,Bool.beq_comm])
 have HX:Hid (xs.length≤140737488351232):=Lib.hid (by omega)
 obtain⟨n,hn⟩:∃n,xs.length=n:=⟨_,rfl⟩
 have HC:Hid (∀(V:World) (cap:Nat),Calls Tryz.prog 116 #[.slice (some ⟨V.heap.size,0,none⟩) n cap,.string ⟨⟨T⟩⟩] (V.alloc (.cells (xs.map Value.string).toArray 9)) fun e w'=>e= .returned (.bool (xs.any (fun x=>(⟨⟨T⟩⟩:ByteArray).toList==x.toList)))∧w'=V.alloc (.cells (xs.map Value.string).toArray 9)):=
  Lib.hid fun V cap=>hn▸Contains_list xs V.heap.size cap 9 (0,0) ⟨⟨T⟩⟩ _ (heap_alloc_new _ _) HX.out
 rw[hn] at HS
 have HG:Hid (Gc w.drew):=Lib.hid (hG.up (drew_under w 1))
 have hc0:w.drew.cell? ⟨b,3,none⟩=some (.string ⟨⟨T⟩⟩):=hc
 have hbd:b<w.drew.heap.size:=hbw
 have HB:Hid (Below w.heap.size w w.drew):=Lib.hid (drew_under w 1)
 clear h1 h2 h3 h4 hG hn HX hc hbw
 cases T with
 |cons c r=>
  rw[HA.out]
  clear HA
  obtain⟨B,hB⟩:∃B,w.heap.size=B:=⟨_,rfl⟩
  obtain⟨R,hR⟩:∃R,(xs.any fun x=>(⟨⟨c::r⟩⟩:ByteArray).toList==x.toList)=R:=⟨_,rfl⟩
  rw[hR] at HC⊢
  go_enter Tryz.func120,Tryz.ntmps120
  go_upto_region 1 with fail
  refine wp_region_G [] (fun u=>u.cell? ⟨b,3,none⟩=some (.string ⟨⟨c::r⟩⟩)) (by rfl) ?_ (fun hHeld=> ?_)
  ·exact hc0
  generalize hwd:World.drew w=wd at HG HB hc0 hbd hHeld⊢
  refine tk 0 (h:=tk 1 (h:=tk 2 (h:=tk 3 (h:=tk 4 (h:=tk 6 (h:= ?_))))))
  try simp only[nmC]
  refine tk 7 (h:= ?_)
  try simp only[nmC]
  refine rd1 5 fun KK hKK=> ?_
  go_simp
  go_at_call 108
  refine(HS.out _ HG.out).mono ?_
  rintro e wz ⟨rfl,rfl⟩
  have hc1:=(((Below.refl wd.heap.size wd).alloc (Nat.le_refl _) (.cells (xs.map Value.string).toArray 9)).cell (p:=⟨b,3,none⟩) hbd).trans hc0
  try dsimp only
  refine hKK.out _ _ (hc1) (fun hHeld=> ?_)
  clear hKK KK
  try simp only[nmC]
  refine rd1 8 fun KK hKK=> ?_
  go_simp
  go_at_call 116
  refine(HC.out _ _).mono ?_
  rintro e wz ⟨rfl,rfl⟩
  try dsimp only
  refine hKK.out _ _ (hc1) (fun hHeld=> ?_)
  clear hKK KK
  try simp only[nmC]
  refine tk 9 (h:=tk 10 (h:= ?_))
  try simp only[nmC]
  refine wpAnyG_done (by kernel_rfl) ?_ _
  go_wp2_with fail
  go_ret
  exact⟨ret_bool rfl,HB.out.alloc HB.out.size _⟩
 |nil=>
  rw[HA.out]
  clear HA HC
  go_enter Tryz.func120,Tryz.ntmps120
  go_upto_region 1 with fail
  refine wp_region_G [] (fun u=>u.cell? ⟨b,3,none⟩=some (.string ⟨⟨[]⟩⟩)) (by rfl) ?_ (fun hHeld=> ?_)
  ·exact hc0
  generalize hwd:World.drew w=wd at HG HB hc0 hbd hHeld⊢
  refine tk 0 (h:=tk 1 (h:=tk 2 (h:=tk 3 (h:=tu 4 (h:=tu 5 (h:= ?_))))))
  try simp only[nmC]
  refine tu 6 (h:=tu 7 (h:=tu 8 (h:=tk 9 (h:=tk 10 (h:= ?_)))))
  try simp only[nmC]
  refine wpAnyG_done (by kernel_rfl) ?_ _
  go_wp2_with fail
  go_ret
  exact⟨ret_bool rfl,HB.out⟩
theorem CntAt.wider {w:World} {b k k':Nat} {l:List (List UInt8)} (h:CntAt w b k l) (hk:k≤k'):CntAt w b k' l:=by
 obtain⟨D,h1,h2⟩:=h
 exact⟨D,h1.mono hk,h2⟩
theorem contains_cons (s x:List UInt8) (old:List (List UInt8)):(s::old).contains x=(x==s||old.contains x):=by
 rw[List.contains_cons]
theorem globalsB_eq:∀(l old:List (List UInt8)),globalsB old l=(l.all nameL&&(nodup l&&l.all fun x=> !old.contains x))
 | [],_=>rfl
 |s::r,old=>by
  have h:(r.all fun x=> !(s::old).contains x)=(!r.contains s&&r.all fun x=> !old.contains x):=by
   induction r with
   |nil=>rfl
   |cons y ys ih=>
    rw[List.all_cons,List.all_cons,ih,contains_cons,contains_cons,Bool.beq_comm (a:=s)]
    cases(y==s)<;>cases old.contains y<;>cases ys.contains s<;>simp
  rw[globalsB,globalsB_eq r (s::old),h,List.all_cons,List.all_cons,nodup]
  cases nameL s<;>cases old.contains s<;>cases r.all nameL<;>cases nodup r<;>cases r.contains s<;>rfl
def namesAll:List (List UInt8)→Bool
 | []=>true
 |x::r=>nameL x&&globalsB [] r
theorem namesB_eq (s:List UInt8) (n:Int):namesB s n=(namesAll (splitC 32 s)&&decide (((splitC 32 s).length:Int)=n)):=by
 unfold namesB
 cases splitC 32 s with
 |nil=>simp[namesAll,nodup]
 |cons x r=>
  rw[namesAll,globalsB_eq,List.all_cons,List.drop_one,List.tail_cons]
  cases nameL x<;>cases r.all nameL<;>cases nodup r<;>simp
theorem names_any (s:List UInt8) (n:Int) (w:World) (h:Gc w) (hs:s.length≤4000000000):Calls Tryz.prog 124 #[.string ⟨⟨s⟩⟩,.int .i64 n] w fun e w'=>e= .returned (.bool (namesB s n))∧Below w.heap.size w w':=by
 have hm:=mapNew
 obtain⟨xs,h1,h2,h3,h4⟩:=split32 ⟨⟨s⟩⟩ hs
 have h2':∀x∈xs,x.size≤4000000000:=fun x hx=>Nat.le_trans (h2 x hx) hs
 have h3':xs.length≤4000000001:=Nat.le_trans h3 (by show s.length+1≤_;omega)
 have HS:=Lib.hid h4
 have HX:=Lib.hid h2'
 have HG:=Lib.hid h
 obtain⟨R,hR⟩:∃R,namesB s n=R:=⟨_,rfl⟩
 rw[hR]
 rw[namesB_eq,show s=(⟨⟨s⟩⟩:ByteArray).data.toList from rfl,←h1,List.length_map] at hR
 obtain⟨ts,hts⟩:∃ts,xs.map (fun x=>x.data.toList)=ts:=⟨_,rfl⟩
 rw[hts] at hR
 obtain⟨c,hc⟩:∃c,xs.length=c:=⟨_,rfl⟩
 have HL:=Lib.hid hc
 have HTS:=Lib.hid hts
 rw[hc] at hR h3' HS
 obtain⟨Q,hQ⟩:∃Q,namesAll ts=Q:=⟨_,rfl⟩
 rw[hQ] at hR
 have HR:=Lib.hid hR
 have HQ:=Lib.hid hQ
 clear h h1 h2 h2' h3 h4 hR hc hts hQ
 go_enter Tryz.func124,Tryz.ntmps124
 have HB0:Hid (∀o,Below w.heap.size w ((w.alloc o).alloc (.map #[] 0))):=Lib.hid fun o=>((Below.refl _ _).alloc (Nat.le_refl _) _).alloc (by simp) _
 have HC0:Hid (∀o,CntAt ((w.alloc o).alloc (.map #[] 0)) (w.heap.size+1) 0 []):=Lib.hid fun o=>by
  have:=CntAt.made (w.alloc o)
  rw[World.size_alloc] at this
  exact this
 have HP0:Hid (((w.alloc (.cells (xs.map Value.string).toArray 9)).alloc (.map #[] 0)).heap[w.heap.size]? =some (.cells (xs.map Value.string).toArray 9 (0,0))):=Lib.hid ((heap_alloc_old _ _ (by simp)).trans (heap_alloc_new _ _))
 go_wp2_with (go_at_call 108;refine(HS.out _ HG.out).mono ?_;rintro e w1 ⟨rfl,rfl⟩)
 go_loopw [14] (fun i wr=>∃j:Nat,j≤c∧i= .int .i64 j∧∃old:List (List UInt8),old.length≤j∧(j=0→old=[])∧Hid (CntAt wr (w.heap.size+1) j old)∧Hid (Below w.heap.size w wr)∧Hid (wr.heap[w.heap.size]? =some (.cells (xs.map Value.string).toArray 9 (0,0)))∧Hid ((if j=0 then namesAll ts else globalsB old (ts.drop j))=Q)) (fun i _=>c-(intOf i).toNat)
 case atStart=>exact⟨0,Nat.zero_le _,rfl,[],Nat.le_refl _,fun _=>rfl,HC0.out _,HB0.out _,HP0,HQ⟩
 case round=>
  obtain⟨j,hj,rfl,old,hold,hz,HC,HB,HP,HI⟩:=hrel
  by_cases hlt:j<c
  ·obtain⟨x,hx⟩:∃x,xs[j]? =some x:=⟨_,List.getElem?_eq_getElem (by rw[HL.out];exact hlt)⟩
   have hcell:wr.cell? ⟨w.heap.size,j,none⟩=some (.string x):=by
    rw[cell_of_row wr _ j _ _ _ HP.out]
    simp[hx]
   have hxs:=HX.out x (List.mem_of_getElem? hx)
   have HD:Hid (ts.drop j=x.data.toList::ts.drop (j+1)):=Lib.hid (drop_cons (by rw[←HTS.out,List.getElem?_map,hx];rfl))
   have hpw:=(Array.getElem?_eq_some_iff.1 HP.out).1
   clear hx
   by_cases hj0:j=0
   ·subst hj0
    obtain rfl:=hz rfl
    have hk1:∀w2,Below wr.heap.size wr w2→(Instr.lookup 71 (.map (some (w.heap.size+1))) (.string x) false).run Tryz.prog w2= .ok (.int .i64 0) w2:=fun w2 hb2=>(HC.out.keep hb2).look x (by omega)
    have HK1:=Lib.hid hk1
    clear hk1
    have hq:=HI.out
    rw[if_pos rfl,show ts=ts.drop 0 from rfl,HD.out,namesAll] at hq
    have HQ2:=Lib.hid hq
    have HG1:=Lib.hid (HG.out.up HB.out)
    clear hq
    cases hnm:nameB x with
    |false=>
     have hQ:Q=false:=by rw[←HQ2.out,show nameL x.data.toList=false from hnm];rfl
     subst hQ
     go_wp2_with (go_at_call 76;refine(named_any x wr HG1.out (by omega)).mono ?_;rw[hnm];rintro e w2 ⟨rfl,hb2⟩)
     go_ret
     exact⟨ret_bool (by rw[←HR.out];rfl),HB.out.trans (hb2.mono HB.out.size)⟩
    |true=>
     have hQ:globalsB [] (ts.drop 1)=Q:=by rw[←HQ2.out,show nameL x.data.toList=true from hnm];rfl
     have HQ3:=Lib.hid hQ
     clear hQ
     go_wp2_with (go_at_call 76;refine(named_any x wr HG1.out (by omega)).mono ?_;rw[hnm];rintro e w2 ⟨rfl,hb2⟩;have hk2:=HK1.out w2 hb2)
     go_roundw
     case rel=>exact⟨1,by omega,by go_num,[],Nat.zero_le _,fun h=>absurd h (by decide),Lib.hid ((HC.out.keep hb2).wider (Nat.zero_le _)),Lib.hid (HB.out.trans (hb2.mono HB.out.size)),Lib.hid ((hb2.block _ hpw).trans HP.out),Lib.hid (by rw[if_neg (by decide)];exact HQ3.out)⟩
     case measure=>simp[intOf];omega
   ·have dj:decide (0<(j:Int))=true:=by simp;omega
    obtain⟨k,hk⟩:∃k:Nat,old.count x.data.toList=k:=⟨_,rfl⟩
    have hkl:k≤old.length:=by rw[←hk];exact List.count_le_length
    have hk1:=HC.out.look x (by omega)
    obtain⟨w1,hu,hC1,hg1⟩:=HC.out.put x (by omega) (by omega) (by omega)
    have hb1:Below w.heap.size wr w1:=grownTo_below hg1 (Nat.le_succ _) HB.out.size
    have hp1:w1.heap[w.heap.size]? =some (.cells (xs.map Value.string).toArray 9 (0,0)):=(hg1.block _ hpw (by intro e;injection e with e;omega)).trans HP.out
    have hpw1:=(Array.getElem?_eq_some_iff.1 hp1).1
    have HP1:=Lib.hid hp1
    have HB1:=Lib.hid (HB.out.trans hb1)
    have HC1:=Lib.hid hC1
    rw[hk] at hk1 hu
    have HG1:=Lib.hid (HG.out.up HB1.out)
    have HK2:Hid (∀w2,Below w1.heap.size w1 w2→(Instr.lookup 71 (.map (some (w.heap.size+1))) (.string x) false).run Tryz.prog w2= .ok (.int .i64 ((k+1:Nat):Int)) w2):=Lib.hid fun w2 hb2=>by
     have:=(HC1.out.keep hb2).look x (by omega)
     rw[List.count_cons_self,hk] at this
     exact this
    have HM:=Lib.hid hk
    have hq:=HI.out
    rw[if_neg hj0,HD.out] at hq
    have HQ2:=Lib.hid hq
    clear hC1 hg1 hb1 hk hq hp1
    cases hnm:nameB x with
    |false=>
     have hQ:Q=false:=by rw[←HQ2.out,globalsB_stop (.inl hnm)]
     subst hQ
     go_wp2_with (go_at_call 76;refine(named_any x w1 HG1.out (by omega)).mono ?_;rw[hnm];rintro e w2 ⟨rfl,hb2⟩)
     go_ret
     exact⟨ret_bool (by rw[←HR.out];rfl),HB1.out.trans (hb2.mono HB1.out.size)⟩
    |true=>
     by_cases hk0:k=0
     ·subst hk0
      rw[show((0:Nat):Int)+1=1 from rfl] at hu
      rw[show((0:Nat):Int)=0 from rfl] at hk1
      have HQ3:=Lib.hid (show globalsB (x.data.toList::old) (ts.drop (j+1))=Q by rw[←HQ2.out,globalsB_go hnm (count_zero_not HM.out)])
      go_wp2_with (go_at_call 76;refine(named_any x w1 HG1.out (by omega)).mono ?_;rw[hnm];rintro e w2 ⟨rfl,hb2⟩;have hk2:=HK2.out w2 hb2)
      go_roundw
      case rel=>exact⟨j+1,by omega,by go_num,x.data.toList::old,by simp;omega,fun h=>by omega,Lib.hid (HC1.out.keep hb2),Lib.hid (HB1.out.trans (hb2.mono HB1.out.size)),Lib.hid ((hb2.block _ hpw1).trans HP1.out),Lib.hid (by rw[if_neg (by omega)];exact HQ3.out)⟩
      case measure=>simp[intOf];omega
     ·have hQ:Q=false:=by rw[←HQ2.out,globalsB_stop (.inr (count_pos_in (by rw[HM.out];exact hk0)))]
      subst hQ
      go_wp2_with (go_at_call 76;refine(named_any x w1 HG1.out (by omega)).mono ?_;rw[hnm];rintro e w2 ⟨rfl,hb2⟩;have hk2:=HK2.out w2 hb2)
      go_ret
      exact⟨ret_bool (by rw[←HR.out];rfl),HB1.out.trans (hb2.mono HB1.out.size)⟩
  ·obtain rfl:j=c:=by omega
   have hlen:ts.length=j:=by rw[←HTS.out,List.length_map,HL.out]
   have hQ:Q=true:=by
    rw[←HI.out]
    by_cases hj0:j=0
    ·rw[if_pos hj0,List.eq_nil_of_length_eq_zero (hlen.trans hj0)];rfl
    ·rw[if_neg hj0,List.drop_of_length_le (by rw[hlen];exact Nat.le_refl _)];rfl
   subst hQ
   have hR:decide ((j:Int)=n)=R:=by rw[←HR.out];rfl
   have HR2:Hid (((j:Int)==n)=R):=Lib.hid hR
   go_wp2_with fail
   go_ret
   exact⟨ret_bool HR2.out,HB.out⟩
theorem and2047 (c:Nat) (hc:c<18446744073709551616):bits .and .u64 (c:Int) 2047=((c % 2048:Nat):Int):=by
 have h:=bits_mask .u64 64 (by decide) wraps_u64 11 (by decide) (c:Int) (by omega) (by omega)
 rw[show((2:Int)^11-1)=2047 by rfl] at h
 rw[h]
 omega
theorem hexU_lt:∀(s:List UInt8) (n m:Nat),hexU s n=some m→n<18446744073709551616→m<18446744073709551616
 | [],n,m,h,hn=>by
  injection h with h
  omega
 |c::r,n,m,h,_=>by
  cases hc:hexA c.toNat with
  |none=>rw[hexU_bad hc] at h;cases h
  |some d=>
   have hn:¬1152921504606846976≤n:=fun hge=>by rw[hexU_far hge] at h;cases h
   rw[hexU_go hc hn] at h
   have:=((hex_byte c).2 d hc).2.2.1
   exact hexU_lt r _ m h (by omega)
def nanB (n:Nat):Bool:= !(n/4503599627370496 % 2048==2047&& !(n % 4503599627370496==0))||n==0x7FF8000000000001
theorem floatB_eq (t:List UInt8):floatBitsB t=(decide (t.length=16)&&match hexW t with
  |none=>false
  |some n=>Lib.toLowerA t==t&&nanB n):=by
 unfold floatBitsB
 by_cases h16:t.length=16
 ·rw[decide_eq_true h16,Bool.true_and,Bool.true_and]
  have hw:hexW t=hexU t 0:=by
   rw[hexW,if_neg]
   intro h
   rw[h] at h16
   cases h16
  rw[hw]
  cases hn:hexNum t 0 with
  |some n=>
   obtain⟨h1,h2⟩:=hexU_of t 0 n hn (by rw[h16];decide)
   rw[h1]
   simp only[h2,beq_self_eq_true,Bool.true_and]
   rfl
  |none=>
   cases hu:hexU t 0 with
   |none=>rfl
   |some n=>
    by_cases hl:Lib.toLowerA t=t
    ·rw[hexNum_of t 0 n hu hl] at hn
     cases hn
    ·simp[hl]
 ·rw[decide_eq_false h16]
  rfl
theorem float_any (t:List UInt8) (hmax:t.length≤4000000000) (w:World) (hG:Gc w):
  Calls Tryz.prog 122 #[.string ⟨⟨t⟩⟩] w fun e w'=>e= .returned (.bool (floatBitsB t))∧Below w.heap.size w w':=by
 have HU:=Lib.hid (hex_outer t hmax w hG)
 obtain⟨F,hF⟩:∃F,floatBitsB t=F:=⟨_,rfl⟩
 rw[hF]
 rw[floatB_eq] at hF
 clear hG
 obtain⟨m,hm⟩:∃m,t.length=m:=⟨_,rfl⟩
 have hsz:(⟨⟨t⟩⟩:ByteArray).size=m:=hm
 by_cases h16:t.length=16
 ·rw[decide_eq_true h16,Bool.true_and] at hF
  obtain rfl:m=16:=by rw[←hm,h16]
  cases hw:hexW t with
  |none=>
   rw[hw] at hF HU
   obtain rfl:F=false:=hF.symm
   clear hF hw
   go_enter Tryz.func122,Tryz.ntmps122
   go_wp2_with (go_at_call 162;refine HU.out.mono ?_;rintro e w1 ⟨hb1,v,te,pe,rfl⟩)
   go_ret
   exact⟨rfl,hb1⟩
  |some n=>
   rw[hw] at hF HU
   have hne:t≠ []:=by intro h;rw[h] at h16;cases h16
   have hu:hexU t 0=some n:=by rw[←hw,hexW,if_neg hne]
   have hasc:=hexU_ascii t 0 n hu
   have hnlt:n<18446744073709551616:=hexU_lt t 0 n hu (by decide)
   have HTL:Hid (∀W,Calls Tryz.prog 163 #[.string ⟨⟨t⟩⟩] W fun e w'=>e= .returned (.string ⟨⟨Lib.toLowerA t⟩⟩)∧Below W.heap.size W w'):=Lib.hid fun W=>Tryz.strings_ToLower_ascii ⟨⟨t⟩⟩ W (by show t.length≤_;omega) (fun j b hj=>(hasc b (List.mem_of_getElem? hj)).1)
   obtain⟨c,r,rfl⟩:∃c r,t=c::r:=List.exists_cons_of_ne_nil hne
   have hc43:=(hasc c (List.mem_cons_self ..)).2
   have hc0:(⟨⟨c::r⟩⟩:ByteArray)[0]? =some c:=rfl
   clear hasc hu hw hne
   obtain⟨L,hL⟩:∃L,Lib.toLowerA (c::r)=L:=⟨_,rfl⟩
   rw[hL] at HTL hF
   have e43:((c.toNat:Int)==43)=false:=by simp;omega
   cases hl:(L==c::r) with
   |false=>
    have hl2:(L !=c::r)=true:=by simp[bne,hl]
    rw[hl] at hF
    obtain rfl:F=false:=hF.symm
    clear hF hL
    go_enter Tryz.func122,Tryz.ntmps122
    go_wp2_with (first
     |(go_at_call 162;refine HU.out.mono ?_;rintro e w1 ⟨hb1,hn,rfl⟩)
     |(go_at_call 163;refine(HTL.out _).mono ?_;rintro e w2 ⟨rfl,hb2⟩))
    go_ret
    exact⟨rfl,hb1.trans (hb2.mono hb1.size)⟩
   |true=>
    have hl2:(L !=c::r)=false:=by simp[bne,hl]
    rw[hl] at hF
    have HF:Hid (nanB n=F):=Lib.hid hF
    have e43':((((⟨⟨c::r⟩⟩:ByteArray)[0]'(by show 0<(c::r).length;simp)).toNat:Int)==43)=false:=e43
    have hnb:n<18446744073709551616:=hnlt
    have f1:bits .and .u64 ((n:Int)/4503599627370496) 2047=((n/4503599627370496 % 2048:Nat):Int):=by
     have:=and2047 (n/4503599627370496) (by omega)
     rw[←this]
     rfl
    have f2:IntKind.u64.wrap ((n:Int)*4096)=((n % 4503599627370496*4096:Nat):Int):=by rw[IntKind.wrap_u64];omega
    clear hF hL
    by_cases hA:n/4503599627370496 % 2048=2047
    ·have e1:bits .and .u64 ((n:Int)/4503599627370496) 2047=2047:=by rw[f1,hA];rfl
     by_cases hB:n % 4503599627370496=0
     ·have e2:IntKind.u64.wrap ((n:Int)*4096)=0:=by rw[f2,hB];rfl
      have HR:Hid (true=F):=Lib.hid (by rw[←HF.out];unfold nanB;simp[hA,hB])
      clear HF f1 f2 hA hB
      go_enter Tryz.func122,Tryz.ntmps122
      go_wp2_with (first
       |(go_at_call 162;refine HU.out.mono ?_;rintro e w1 ⟨hb1,hn,rfl⟩)
       |(go_at_call 163;refine(HTL.out _).mono ?_;rintro e w2 ⟨rfl,hb2⟩))
      go_ret
      exact⟨ret_bool HR.out,hb1.trans (hb2.mono hb1.size)⟩
     ·have e2:¬IntKind.u64.wrap ((n:Int)*4096)=0:=by rw[f2];omega
      have e2':(IntKind.u64.wrap ((n:Int)*4096) !=0)=true:=by simpa using e2
      have HR:Hid (((n:Int)==9221120237041090561)=F):=Lib.hid (by rw[←HF.out];unfold nanB;rw[hA];simp;rw[Bool.eq_iff_iff];simp;omega)
      clear HF f1 f2 hA hB
      go_enter Tryz.func122,Tryz.ntmps122
      go_wp2_with (first
       |(go_at_call 162;refine HU.out.mono ?_;rintro e w1 ⟨hb1,hn,rfl⟩)
       |(go_at_call 163;refine(HTL.out _).mono ?_;rintro e w2 ⟨rfl,hb2⟩))
      go_ret
      exact⟨ret_bool (by rw[←HR.out]),hb1.trans (hb2.mono hb1.size)⟩
    ·have e1:¬bits .and .u64 ((n:Int)/4503599627370496) 2047=2047:=by rw[f1];omega
     have e1':(bits .and .u64 ((n:Int)/4503599627370496) 2047==2047)=false:=by simpa using e1
     have HR:Hid (true=F):=Lib.hid (by rw[←HF.out];unfold nanB;simp[hA])
     clear HF f1 f2 hA
     go_enter Tryz.func122,Tryz.ntmps122
     go_wp2_with (first
      |(go_at_call 162;refine HU.out.mono ?_;rintro e w1 ⟨hb1,hn,rfl⟩)
      |(go_at_call 163;refine(HTL.out _).mono ?_;rintro e w2 ⟨rfl,hb2⟩))
     go_ret
     exact⟨ret_bool (by rw[←HR.out]),hb1.trans (hb2.mono hb1.size)⟩
 ·rw[decide_eq_false h16] at hF
  obtain rfl:F=false:=hF.symm
  have hmn:((m:Int) !=16)=true:=by simp;omega
  have HUA:Hid (Calls Tryz.prog 162 #[.string ⟨⟨t⟩⟩,.int .i64 16,.int .i64 64] w fun e w'=>Below w.heap.size w w'∧∃v x,e= .returned (.tuple #[v,x])):=Lib.hid (HU.out.mono (by
   rintro e w1 ⟨hb1,h⟩
   refine⟨hb1, ?_⟩
   cases hw:hexW t with
   |none=>rw[hw] at h;obtain⟨v,te,pe,rfl⟩:=h;exact⟨_,_,rfl⟩
   |some n=>rw[hw] at h;obtain⟨_,rfl⟩:=h;exact⟨_,_,rfl⟩))
  clear hF HU
  go_enter Tryz.func122,Tryz.ntmps122
  go_wp2_with (go_at_call 162;refine HUA.out.mono ?_;rintro e w1 ⟨hb1,v,x,rfl⟩)
  go_ret
  exact⟨rfl,hb1⟩
theorem manySum_pos:∀l:List Cf,0≤manySum l
 | []=>Int.le_refl 0
 |f::r=>by have:=manySum_pos r;rw[manySum];omega
def manyC (p:Cp):Option Nat:=if p.funcs.length<1∨20000<p.funcs.length∨20000<p.globals.length∨60000<IntKind.i64.wrap (manySum p.funcs) then some 0 else manyFrom p.funcs 0
def ManyPost (w:World) (r:Option Nat) (e:Ending) (w':World):Prop:=match r with
 |none=>e= .returned (.pointer none)∧Below w.heap.size w w'
 |some i=>WrongPost w 22 i none e w'
theorem manyFrom_stop {f:Cf} {r:List Cf} {i:Nat} (h:20000<f.slots∨20000<f.taken.length):manyFrom (f::r) i=some i:=by rw[manyFrom,if_pos h]
theorem manyFrom_go {f:Cf} {r:List Cf} {i:Nat} (h:¬(20000<f.slots∨20000<f.taken.length)):manyFrom (f::r) i=manyFrom r (i+1):=by rw[manyFrom,if_neg h]
theorem WrongPost.under {w wr:World} {c a:Int} {i:Option Int} {e:Ending} {w':World} (h:WrongPost wr c a i e w') (hb:Below w.heap.size w wr):WrongPost w c a i e w':=by
 obtain⟨h1,b,h2,h3,h4⟩:=h
 exact⟨hb.trans (h1.mono hb.size),b,h2,Nat.le_trans hb.size h3,h4⟩
theorem codeMany_any {p:Cp} {n m fc gc:Nat} {fa ga:Option Addr} {xs:List (Cf×Fv)} {w:World} (hp:PgAt w p n m fa ga xs) (hok:CpOk p) (hsum:manySum p.funcs≤4000000000000):
  Calls Tryz.prog 33 #[.agg #[.slice fa n fc,.slice ga m gc]] w (ManyPost w (manyC p)):=by
 have HP0:=Lib.hid (heap_alloc_new w (.cells #[.slice fa n fc,.slice ga m gc] 27 (0,0)))
 have HB0:Hid (Below w.heap.size w (w.alloc (.cells #[.slice fa n fc,.slice ga m gc] 27 (0,0)))):=Lib.hid ((Below.refl _ _).alloc (Nat.le_refl _) _)
 have hn:n≤140737488351232:=hp.fn▸hok.1
 have hm:m≤140737488351232:=hp.gn▸hok.2.1
 have HA:Hid (∀W,Below w.heap.size w W→∀i f,p.funcs[i]? =some f→∃g q fv,fa=some ⟨g,q,none⟩∧LiesF w w.heap.size (f,fv)∧HeadAt W g q i n f.name f.params f.slots f.around fv.ta f.taken.length fv.tc fv.ca f.code.length fv.cc):=
  Lib.hid fun W hW i f hf=>headAt_of hp hW hf
 have HL:=Lib.hid hp.fn
 have HOK:=Lib.hid hok
 obtain⟨R,hR⟩:∃R,manyC p=R:=⟨_,rfl⟩
 have hS:=manySum_pos p.funcs
 obtain⟨T,hT⟩:∃T,manySum p.funcs=T:=⟨_,rfl⟩
 rw[hR]
 unfold manyC at hR
 rw[hp.fn,hp.gn,hT,show IntKind.i64.wrap T=T by rw[IntKind.wrap_i64];omega] at hR
 rw[hT] at hS hsum
 have HR:=Lib.hid hR
 have HT:=Lib.hid hT
 clear hp hok hR hT
 go_enter Tryz.func33,Tryz.ntmps33
 go_wp2_with fail
 go_loopw [3,11] (fun all i wr=>Hid (Below w.heap.size w wr)∧Hid (wr.heap[w.heap.size]? =some (.cells #[.slice fa n fc,.slice ga m gc] 27 (0,0)))∧∃j:Nat,j≤n∧i= .int .i64 j∧∃S:Int,0≤S∧all= .int .i64 S∧Hid (S+manySum (p.funcs.drop j)=T)) (fun _ i _=>n-(intOf i).toNat)
 case atStart=>exact⟨HB0,HP0,0,Nat.zero_le _,rfl,0,Int.le_refl 0,rfl,Lib.hid (by rw[List.drop_zero,HT.out];omega)⟩
 case round=>
  obtain⟨HB,HP,j,hj,rfl,S,hS0,rfl,HI⟩:=hrel
  by_cases hlt:j<n
  ·obtain⟨f,hf⟩:∃f,p.funcs[j]? =some f:=⟨_,List.getElem?_eq_getElem (by rw[HL.out];exact hlt)⟩
   obtain⟨g,q,fv,rfl,_,hA⟩:=HA.out _ HB.out j f hf
   have hcl:f.code.length≤140737488351232:=(HOK.out.2.2.1 f (List.mem_of_getElem? hf)).2.2.2.2.2.1
   have hsum2:S+f.code.length+manySum (p.funcs.drop (j+1))=T:=by
    have:=HI.out
    rw[drop_cons hf,manySum] at this
    omega
   have hpos:=manySum_pos (p.funcs.drop (j+1))
   have HS2:=Lib.hid hsum2
   have hSb:S+(f.code.length:Int)≤4000000000000:=by omega
   have hg:=hA.lt
   have x0:=hA.x0
   have x1:=hA.x1
   have x2:=hA.x2
   have x3:=hA.x3
   have x4:=hA.x4
   have x5:=hA.x5
   clear hA hf hsum2 hpos
   go_wp2_with fail
   go_roundw
   case rel=>exact⟨Lib.hid (HB.out.alloc HB.out.size _),Lib.hid ((heap_alloc_old _ _ (Array.getElem?_eq_some_iff.1 HP.out).1).trans HP.out),j+1,by omega,by go_num,S+(f.code.length:Int),by omega,by go_num,HS2⟩
   case measure=>simp[intOf];omega
  ·obtain rfl:j=n:=by omega
   obtain rfl:S=T:=by
    have:=HI.out
    rw[List.drop_of_length_le (by rw[HL.out];exact Nat.le_refl _),manySum] at this
    omega
   obtain⟨q0,q1⟩:=cr2 wr w.heap.size HP.out
   simp only[gq] at q0 q1
   by_cases h1:j<1∨20000<j∨20000<m∨60000<S
   ·have hR:R=some 0:=by rw[←HR.out,if_pos h1]
    subst hR
    have HW:Hid (∀W,Calls Tryz.prog 35 #[.int .i64 22,.int .i64 0,.int .i64 (-1)] W (WrongPost W 22 0 none)):=Lib.hid fun W=>wrong_none 22 0 W
    rcases h1 with h1|h1|h1|h1
    all_goals
     go_wp2_with (go_at_call 35;refine(HW.out _).mono ?_;rintro e w4 ⟨hb4,b4,rfl,hl4,hw4⟩)
     all_goals
      go_ret
      exact WrongPost.under ⟨hb4,b4,rfl,hl4,hw4⟩ HB.out
   ·have HR2:Hid (manyFrom p.funcs 0=R):=Lib.hid (by rw[←HR.out,if_neg h1])
    obtain⟨a1,a2⟩:=not_or.1 h1
    obtain⟨a3,a4⟩:=not_or.1 a2
    obtain⟨a5,a6⟩:=not_or.1 a4
    have d1:decide ((j:Int)<1)=false:=by simp;omega
    have d2:decide (20000<(j:Int))=false:=by simp;omega
    have d3:decide (20000<(m:Int))=false:=by simp;omega
    have d4:decide (60000<S)=false:=decide_eq_false a6
    clear h1 a1 a2 a4
    go_wp2_with fail
    go_loopw [45] (fun i wr=>Hid (Below w.heap.size w wr)∧∃k:Nat,k≤j∧i= .int .i64 k∧Hid (manyFrom (p.funcs.drop k) k=R)) (fun i _=>j-(intOf i).toNat)
    case atStart=>exact⟨HB,0,Nat.zero_le _,rfl,HR2⟩
    case round=>
     obtain⟨HB2,k,hk,rfl,HJ⟩:=hrel
     by_cases hkt:k<j
     ·obtain⟨f,hf⟩:∃f,p.funcs[k]? =some f:=⟨_,List.getElem?_eq_getElem (by rw[HL.out];exact hkt)⟩
      obtain⟨g,q,fv,rfl,_,hA⟩:=HA.out _ HB2.out k f hf
      have htl:f.taken.length≤140737488351232:=(HOK.out.2.2.1 f (List.mem_of_getElem? hf)).2.2.2.2.1
      have hq:=HJ.out
      rw[drop_cons hf] at hq
      have HQ:=Lib.hid hq
      have hg:=hA.lt
      have x0:=hA.x0
      have x1:=hA.x1
      have x2:=hA.x2
      have x3:=hA.x3
      have x4:=hA.x4
      have x5:=hA.x5
      have HB3:Hid (∀o,Below w.heap.size w (wr.alloc o)):=Lib.hid fun o=>HB2.out.alloc HB2.out.size _
      obtain⟨tl,htl2⟩:∃tl,f.taken.length=tl:=⟨_,rfl⟩
      have HTL:=Lib.hid htl2
      rw[htl2] at x3 htl
      clear hA hf hq q0 q1 htl2
      by_cases h2:20000<f.slots∨20000<tl
      ·have hR:R=some k:=by rw[←HQ.out,manyFrom_stop (by rw[HTL.out];exact h2)]
       subst hR
       have HW:Hid (∀W,Calls Tryz.prog 35 #[.int .i64 22,.int .i64 k,.int .i64 (-1)] W (WrongPost W 22 k none)):=Lib.hid fun W=>wrong_none 22 k W
       rcases h2 with h2|h2
       all_goals
        go_wp2_with (go_at_call 35;refine(HW.out _).mono ?_;rintro e w4 ⟨hb4,b4,rfl,hl4,hw4⟩)
        all_goals
         go_ret
         exact WrongPost.under ⟨hb4,b4,rfl,hl4,hw4⟩ (HB3.out _)
      ·obtain⟨b1,b2⟩:=not_or.1 h2
       have e1:decide (20000<f.slots)=false:=decide_eq_false b1
       have e2:decide (20000<(tl:Int))=false:=by simp;omega
       have HJ2:Hid (manyFrom (p.funcs.drop (k+1)) (k+1)=R):=Lib.hid (by rw[←HQ.out,manyFrom_go (by rw[HTL.out];exact h2)])
       clear h2 b1 b2
       go_wp2_with fail
       go_roundw
       case rel=>exact⟨Lib.hid (HB3.out _),k+1,by omega,by go_num,HJ2⟩
       case measure=>simp[intOf];omega
     ·obtain rfl:k=j:=by omega
      have hR:R=none:=by
       rw[←HJ.out,List.drop_of_length_le (by rw[HL.out];exact Nat.le_refl _)]
       rfl
      subst hR
      go_wp2_with fail
      go_ret
      exact⟨rfl,HB2.out⟩
end Go.Proofs.YtagnicbknbmccaaGreatDoor
