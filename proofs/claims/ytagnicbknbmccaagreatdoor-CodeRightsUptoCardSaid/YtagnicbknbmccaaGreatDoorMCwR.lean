/- code.reader: fail, number, many, text. code.reader: many, text. -/
import Derived.BigQuiet
import Derived.Deep.DeepCutAuto
import Derived.Test.YtagnicbknbmccaaGreatDoorMCwF
import Derived.Test.YtagnicbknbmccaaGreatDoorCwT
import Derived.Test.YtagnicbknbmccaaGreatDoorMCwH
import Derived.Test.YtagnicbknbmccaaGreatDoorSqC
set_option maxRecDepth 100000
set_option maxHeartbeats 4000000
namespace Go.Proofs.YtagnicbknbmccaaGreatDoor
open Go.RowKit
def badI:Option Nat→Int
 |none=> -1
 |some n=>n
structure BrAt (rb:Nat) (b:List UInt8) (r:Drd) (w:World):Prop where
 box:w.heap[rb]? =some (.cells #[.string ⟨⟨b⟩⟩,.int .i64 r.at_,.int .i64 (badI r.bad)] 101 (0,0))
 le:r.at_≤b.length
section
variable {rb:Nat} {b:List UInt8} {r:Drd} {w W:World}
theorem BrAt.c0 (h:BrAt rb b r w):w.cell? ⟨rb,0,none⟩=some (.string ⟨⟨b⟩⟩):=cell_of_row w _ 0 _ _ _ h.box
theorem BrAt.c1 (h:BrAt rb b r w):w.cell? ⟨rb,1,none⟩=some (.int .i64 r.at_):=cell_of_row w _ 1 _ _ _ h.box
theorem BrAt.c2 (h:BrAt rb b r w):w.cell? ⟨rb,2,none⟩=some (.int .i64 (badI r.bad)):=cell_of_row w _ 2 _ _ _ h.box
theorem BrAt.f (h:BrAt rb b r w) (i:Nat):w.frozen? ⟨rb,i,none⟩=false:=frozen_of_row w _ i _ _ h.box
theorem BrAt.go (h:BrAt rb b r w) {i:Nat} (hi:i≤b.length):BrAt rb b {r with at_:=i} (w.setCell ⟨rb,1,none⟩ (.int .i64 i)):=⟨heap_setCell_same _ _ 1 _ _ _ h.box,hi⟩
theorem BrAt.bad (h:BrAt rb b r w) (i:Nat):BrAt rb b {r with bad:=some i} (w.setCell ⟨rb,2,none⟩ (.int .i64 i)):=⟨heap_setCell_same _ _ 2 _ _ _ h.box,h.le⟩
theorem BrAt.lt (h:BrAt rb b r w):rb<w.heap.size:=(Array.getElem?_eq_some_iff.1 h.box).1
theorem BrAt.keep (h:BrAt rb b r w) (hk:W.heap[rb]? =w.heap[rb]?):BrAt rb b r W:=⟨hk.trans h.box,h.le⟩
end
abbrev RF (rb:Nat) (w W:World):Prop:=Foot w.heap.size (fun k=>k=rb) w W
theorem fail_any {rb:Nat} {b:List UInt8} {r:Drd} {w:World} (h:BrAt rb b r w) (i:Nat):Calls Tryz.prog 103 #[.pointer (some ⟨rb,0,none⟩),.int .i64 i] w fun e w'=>e= .returned (.int .i64 0)∧BrAt rb b (r.fail i) w'∧RF rb w w':=by
 have H:=Lib.hid h
 have h2:=h.c2
 have f2:=h.f 2
 clear h
 go_enter Tryz.func103,Tryz.ntmps103
 cases hb:r.bad with
 |none=>
  rw[hb] at h2
  have d:decide ((-1:Int)<0)=true:=rfl
  simp only[badI] at h2
  go_wp2_with fail
  go_ret
  refine⟨rfl, ?_, ?_⟩
  ·have:=H.out.bad i
   rw[show r.fail i= {r with bad:=some i} by unfold Drd.fail;rw[hb]]
   exact this
  ·exact Foot.set (g:=fun k=>k=rb) (p:=⟨rb,2,none⟩) (Foot.refl _ _ _) (.inr rfl) _
 |some n=>
  rw[hb] at h2
  simp only[badI] at h2
  have d:decide ((n:Int)<0)=false:=by simp
  go_wp2_with fail
  go_ret
  refine⟨rfl, ?_,Foot.refl _ _ _⟩
  rw[show r.fail i=r by unfold Drd.fail;rw[hb]]
  exact H.out
theorem number_any {rb:Nat} {b:List UInt8} {r:Drd} {w:World} (h:BrAt rb b r w) (hbl:b.length≤140737488351232):Calls Tryz.prog 102 #[.pointer (some ⟨rb,0,none⟩)] w fun e w'=>e= .returned (.int .i64 (numD b r).1)∧BrAt rb b (numD b r).2 w'∧RF rb w w':=by
 have H:=Lib.hid h
 have h2:=h.c2
 have f2:=h.f 2
 clear h
 obtain⟨Y,HY⟩:∃Y,Hid (numD b r=Y):=⟨_,rfl⟩
 rw[HY.out]
 go_enter Tryz.func102,Tryz.ntmps102
 cases hb:r.bad with
 |some n=>
  rw[hb] at h2
  simp only[badI] at h2
  go_wp2_with fail
  go_ret
  rw[←HY.out,show numD b r=(0,r) by unfold numD;rw[hb]]
  exact⟨rfl,H.out,Foot.refl _ _ _⟩
 |none=>
  obtain⟨R,HR⟩:∃R,Hid (numLoop b r.at_ 11 0 0 r=R):=⟨_,rfl⟩
  have hnd:Y=if R.2.bad=none then(unfoldN R.1,R.2) else(0,R.2):=by
   rw[←HY.out]
   unfold numD
   rw[hb]
   simp only[HR.out]
  have HN:=Lib.hid hnd
  clear hnd
  have h1:=H.out.c1
  rw[hb] at h2
  simp only[badI] at h2
  obtain⟨fr,hfr⟩:∃fr,r.at_=fr:=⟨_,rfl⟩
  rw[hfr] at h1 HR
  go_wp2_with fail
  go_loopw [4,5] (fun u k wr=>∃(un kn:Nat) (r':Drd),u= .int .u64 un∧k= .int .i64 kn∧kn≤9∧Hid (un<2^(7*kn))∧Hid (BrAt rb b r' wr)∧r'.bad=none∧Hid (numLoop b fr (11-kn) kn un r'=R)∧Hid (RF rb w wr)) (fun _ k _=>9-(intOf k).toNat)
  case atStart=>exact⟨0,0,r,rfl,rfl,by omega,Lib.hid (by decide),H,hb,HR,Lib.hid (Foot.refl _ _ _)⟩
  case round=>
   obtain⟨un,kn,r',rfl,rfl,hk,HU,HB,hb',HL,HF⟩:=hrel
   obtain⟨ix,bd⟩:=r'
   dsimp only at hb'
   subst hb'
   have k0:=HB.out.c0
   have k1:=HB.out.c1
   have k2:=HB.out.c2
   have g1:=HB.out.f 1
   have g2:=HB.out.f 2
   simp only[badI] at k1 k2
   have hle:ix≤b.length:=HB.out.le
   obtain⟨fl,hfl⟩:∃fl,11-kn=fl+1:=⟨10-kn,by omega⟩
   have hl:=HL.out
   rw[hfl,numLoop] at hl
   dsimp only at hl
   by_cases hlt:ix<b.length
   ·obtain⟨c,hc⟩:∃c,b[ix]? =some c:=⟨_,List.getElem?_eq_getElem hlt⟩
    rw[hc] at hl
    dsimp only at hl
    have hix:∀h,(⟨⟨b⟩⟩:ByteArray)[ix]'h=c:=fun h=>(List.getElem?_eq_some_iff.1 hc).2
    have hcl:=c.toNat_lt
    clear hc
    have HBk:Hid (∀n,BrAt rb b ⟨ix+1,none⟩ ((wr.drewN n).setCell ⟨rb,1,none⟩ (.int .i64 ((ix:Int)+1)))):=Lib.hid fun n=>⟨heap_setCell_same (wr.drewN n) rb 1 _ _ _ HB.out.box,hlt⟩
    have HFk:Hid (∀n,RF rb w ((wr.drewN n).setCell ⟨rb,1,none⟩ (.int .i64 ((ix:Int)+1)))):=Lib.hid fun n=>Foot.set (g:=fun k=>k=rb) (p:=⟨rb,1,none⟩) (HF.out.drewN n) (.inr rfl) _
    by_cases h9:kn=9
    ·have q9:((kn:Int)==9)=true:=by simpa using (by omega:(kn:Int)=9)
     have H9:=Lib.hid h9
     have K0:Hid (0<kn):=Lib.hid (by omega)
     have p0:decide (0<(kn:Int))=true:=by simp;omega
     clear h9
     by_cases hc1:1<c.toNat
     ·have g0:decide (1<(c.toNat:Int))=true:=by simp;omega
      rw[if_pos (.inl ⟨H9.out,hc1⟩)] at hl
      have hy:Y=(0,⟨ix+1,some fr⟩):=by rw[HN.out,←hl];rfl
      have HYE:=Lib.hid hy
      clear hl hy
      go_wp2_with fail
      go_quiet (fail)
      go_wp2_with fail
      go_quiet (fail)
      go_wp2_with fail
      go_at_call 103;refine(fail_any (HBk.out _) fr).mono ?_;rintro e w1 ⟨rfl,hB1,hF1⟩
      go_wp2_with fail
      go_ret
      rw[HYE.out]
      exact⟨rfl,hB1,Foot.trans (HFk.out _) (hF1.mono (HFk.out _).size fun _ _ h=>h)⟩
     ·have g0:decide (1<(c.toNat:Int))=false:=by simp;omega
      by_cases hz:c.toNat=0
      ·have z0:((c.toNat:Int)==0)=true:=by simpa using hz
       rw[if_pos (.inr ⟨K0.out,hz⟩)] at hl
       have hy:Y=(0,⟨ix+1,some fr⟩):=by rw[HN.out,←hl];rfl
       have HYE:=Lib.hid hy
       clear hl hy
       go_wp2_with fail
       go_quiet (fail)
       go_wp2_with fail
       go_quiet (fail)
       go_wp2_with fail
       go_at_call 103;refine(fail_any (HBk.out _) fr).mono ?_;rintro e w1 ⟨rfl,hB1,hF1⟩
       go_wp2_with fail
       go_ret
       rw[HYE.out]
       exact⟨rfl,hB1,Foot.trans (HFk.out _) (hF1.mono (HFk.out _).size fun _ _ h=>h)⟩
      ·have z0:((c.toNat:Int)==0)=false:=by simpa using hz
       have h128:c.toNat<128:=by omega
       rw[if_neg (by rintro(⟨_,e⟩|⟨_,e⟩);exact hc1 e;exact hz e)] at hl
       have ho:=byte_step un c.toNat kn HU.out hcl hk (fun _=>by omega)
       have hw:=byte_whole (c:=c.toNat) HU.out hk (fun _=>by omega)
       have hfi:=byte_fits (c:=c.toNat) HU.out
       obtain⟨U,hU⟩:∃U,un+c.toNat % 128*2^(7*kn)=U:=⟨_,rfl⟩
       rw[hU] at ho hw hfi hl
       have HFI:=Lib.hid hfi
       clear hfi hU
       rw[if_pos h128] at hl
       have hy:Y=(unfoldN U,⟨ix+1,none⟩):=by rw[HN.out,←hl];rfl
       have HYE:=Lib.hid hy
       have hx:=unfold_law U hw
       have hx2:=unfold_law2 U hw
       have d128:decide ((c.toNat:Int)<128)=true:=by simp;omega
       clear hl hy
       go_wp2_with fail
       go_quiet (fail)
       go_wp2_with fail
       go_quiet (fail)
       go_wp2_with fail
       skip
       go_ret
       rw[HYE.out]
       exact⟨ret_int (by first|rfl|exact hx|exact hx2),HBk.out _,HFk.out _⟩
    ·have q9:((kn:Int)==9)=false:=by simpa using fun e=>h9 (by omega)
     have H9:=Lib.hid h9
     clear h9
     by_cases hk0:kn=0
     ·subst hk0
      rw[if_neg (by rintro(⟨e,_⟩|⟨e,_⟩);exact H9.out e;omega)] at hl
      have ho1:=byte_step un c.toNat 0 HU.out hcl (by omega) (fun e=>absurd e (by decide))
      have hw:=byte_whole (c:=c.toNat) HU.out (by omega) (fun e=>absurd e (by decide))
      have hfi:=byte_fits (c:=c.toNat) HU.out
      obtain⟨U,hU⟩:∃U,un+c.toNat % 128*2^(7*0)=U:=⟨_,rfl⟩
      rw[hU] at ho1 hw hfi hl
      have ho:bits .or .u64 (un:Int) (IntKind.u64.wrap (bits .and .u64 (c.toNat:Int) 127))=(U:Int):=by rw[←ho1];simp
      have HFI:=Lib.hid hfi
      clear hfi hU ho1 q9
      by_cases h128:c.toNat<128
      ·skip
       rw[if_pos h128] at hl
       have hy:Y=(unfoldN U,⟨ix+1,none⟩):=by rw[HN.out,←hl];rfl
       have HYE:=Lib.hid hy
       have hx:=unfold_law U hw
       have hx2:=unfold_law2 U hw
       have d128:decide ((c.toNat:Int)<128)=true:=by simp;omega
       clear hl hy
       go_wp2_with fail
       go_quiet (fail)
       go_wp2_with fail
       go_quiet (fail)
       go_wp2_with fail
       skip
       go_ret
       rw[HYE.out]
       exact⟨ret_int (by first|rfl|exact hx|exact hx2),HBk.out _,HFk.out _⟩
      ·skip
       rw[if_neg h128] at hl
       have HL2:Hid (numLoop b fr (11-(0+1)) (0+1) U ⟨ix+1,none⟩=R):=by rw[show 11-(0+1)=fl by omega];exact hl
       have d128:decide ((c.toNat:Int)<128)=false:=by simp;omega
       clear hl
       go_wp2_with fail
       go_quiet (fail)
       go_wp2_with fail
       go_quiet (fail)
       go_wp2_with fail
       go_roundw
       case rel=>exact⟨U,0+1,⟨ix+1,none⟩,rfl,by go_num,by omega,HFI,Lib.hid (HBk.out _),rfl,HL2,Lib.hid (HFk.out _)⟩
       case measure=>simp[intOf]
     ·have p0:decide (0<(kn:Int))=true:=by simp;omega
      have K0:Hid (0<kn):=Lib.hid (by omega)
      have H8:kn≤8:=by have:=H9.out;omega
      clear hk0
      by_cases hz:c.toNat=0
      ·have z0:((c.toNat:Int)==0)=true:=by simpa using hz
       rw[if_pos (.inr ⟨K0.out,hz⟩)] at hl
       have hy:Y=(0,⟨ix+1,some fr⟩):=by rw[HN.out,←hl];rfl
       have HYE:=Lib.hid hy
       clear hl hy
       go_wp2_with fail
       go_quiet (fail)
       go_wp2_with fail
       go_quiet (fail)
       go_wp2_with fail
       go_at_call 103;refine(fail_any (HBk.out _) fr).mono ?_;rintro e w1 ⟨rfl,hB1,hF1⟩
       go_wp2_with fail
       go_ret
       rw[HYE.out]
       exact⟨rfl,hB1,Foot.trans (HFk.out _) (hF1.mono (HFk.out _).size fun _ _ h=>h)⟩
      ·have z0:((c.toNat:Int)==0)=false:=by simpa using hz
       rw[if_neg (by rintro(⟨e,_⟩|⟨_,e⟩);exact H9.out e;exact hz e)] at hl
       have ho:=byte_step un c.toNat kn HU.out hcl hk (fun e=>absurd e H9.out)
       have hw:=byte_whole (c:=c.toNat) HU.out hk (fun e=>absurd e H9.out)
       have hfi:=byte_fits (c:=c.toNat) HU.out
       obtain⟨U,hU⟩:∃U,un+c.toNat % 128*2^(7*kn)=U:=⟨_,rfl⟩
       rw[hU] at ho hw hfi hl
       have HFI:=Lib.hid hfi
       clear hfi hU
       by_cases h128:c.toNat<128
       ·skip
        rw[if_pos h128] at hl
        have hy:Y=(unfoldN U,⟨ix+1,none⟩):=by rw[HN.out,←hl];rfl
        have HYE:=Lib.hid hy
        have hx:=unfold_law U hw
        have hx2:=unfold_law2 U hw
        have d128:decide ((c.toNat:Int)<128)=true:=by simp;omega
        clear hl hy
        go_wp2_with fail
        go_quiet (fail)
        go_wp2_with fail
        go_quiet (fail)
        go_wp2_with fail
        skip
        go_ret
        rw[HYE.out]
        exact⟨ret_int (by first|rfl|exact hx|exact hx2),HBk.out _,HFk.out _⟩
       ·skip
        rw[if_neg h128] at hl
        have HL2:Hid (numLoop b fr (11-(kn+1)) (kn+1) U ⟨ix+1,none⟩=R):=by rw[show 11-(kn+1)=fl by omega];exact hl
        have d128:decide ((c.toNat:Int)<128)=false:=by simp;omega
        clear hl
        go_wp2_with fail
        go_quiet (fail)
        go_wp2_with fail
        go_quiet (fail)
        go_wp2_with fail
        go_roundw
        case rel=>exact⟨U,kn+1,⟨ix+1,none⟩,rfl,by go_num,by omega,HFI,Lib.hid (HBk.out _),rfl,HL2,Lib.hid (HFk.out _)⟩
        case measure=>simp[intOf];omega
   ·obtain rfl:ix=b.length:=by omega
    rw[List.getElem?_eq_none (Nat.le_refl _)] at hl
    dsimp only at hl
    have hy:Y=(0,⟨b.length,some b.length⟩):=by rw[HN.out,←hl];rfl
    have HYE:=Lib.hid hy
    have HBe:Hid (∀n,BrAt rb b ⟨b.length,none⟩ (wr.drewN n)):=Lib.hid fun n=>⟨HB.out.box,Nat.le_refl _⟩
    clear hl hy
    go_wp2_with fail
    go_quiet (fail)
    go_wp2_with fail
    go_at_call 103;refine(fail_any (HBe.out _) b.length).mono ?_;rintro e w1 ⟨rfl,hB1,hF1⟩
    go_wp2_with fail
    go_ret
    rw[HYE.out]
    exact⟨rfl,hB1,Foot.trans (HF.out.drewN _) (hF1.mono HF.out.size fun _ _ h=>h)⟩
theorem many_ok {b:List UInt8} {r:Drd} (h:(manyD b r).2.bad=none):0≤(manyD b r).1∧(manyD b r).1+(manyD b r).2.at_≤b.length:=by
 unfold manyD at h⊢
 dsimp only at h⊢
 split at h
 ·rename_i hc
  simp[Drd.fail,hc.1] at h
 ·rename_i hc
  rw[if_neg hc]
  have h0:¬((numD b r).1<0∨((b.length:Int)-(numD b r).2.at_)<(numD b r).1):=fun e=>hc ⟨h,e⟩
  constructor<;>omega
theorem many_any {rb:Nat} {b:List UInt8} {r:Drd} {w:World} (h:BrAt rb b r w) (hbl:b.length≤140737488351232):Calls Tryz.prog 60 #[.pointer (some ⟨rb,0,none⟩)] w fun e w'=>e= .returned (.int .i64 (manyD b r).1)∧BrAt rb b (manyD b r).2 w'∧RF rb w w':=by
 have H:=Lib.hid h
 have h1:=h.c1
 clear h
 obtain⟨fr,hfr⟩:∃fr,r.at_=fr:=⟨_,rfl⟩
 obtain⟨Y,HY⟩:∃Y,Hid (manyD b r=Y):=⟨_,rfl⟩
 rw[HY.out]
 obtain⟨n,x,hx⟩:∃n x,numD b r=(n,x):=⟨_,_,rfl⟩
 have hy:=HY.out
 unfold manyD at hy
 rw[hx,hfr] at hy
 dsimp only at hy
 rw[hfr] at h1
 have HN:=Lib.hid (number_any H.out hbl)
 rw[hx] at HN
 dsimp only at HN
 obtain⟨at_,bad⟩:=x
 dsimp only at hy
 clear hx
 go_enter Tryz.func60,Tryz.ntmps60
 go_wp2_with (go_at_call 102;refine HN.out.mono ?_;rintro e w1 ⟨rfl,hB,hF⟩;have k0:=hB.c0;have k1:=hB.c1;have k2:=hB.c2;have HB:=Lib.hid hB;have hle:at_≤b.length:=hB.le;clear hB;simp only at k1 k2;have hwr:IntKind.i64.wrap ((b.length:Int)-(at_:Int))=(b.length:Int)-at_:=by rw[IntKind.wrap_i64];omega)
 cases bad with
 |some m=>
  rw[if_neg (by rintro⟨e,_⟩;cases e)] at hy
  have HY2:=Lib.hid hy
  clear hy
  simp only[badI] at k2
  refine wp_region_G [] (fun x=>x.cell? ⟨rb,0,none⟩=some (.string ⟨⟨b⟩⟩)∧x.cell? ⟨rb,1,none⟩=some (.int .i64 at_)∧x.cell? ⟨rb,2,none⟩=some (.int .i64 m)) (by rfl) ?_ (fun hHeld=> ?_)
  ·exact⟨k0,k1,k2⟩
  refine tk 0 (h:=tk 1 (h:=tk 2 (h:=tk 3 (h:=tk 4 (h:=tk 5 (h:= ?_))))))
  try simp only[nmC]
  refine tu 6 (h:=tu 7 (h:=tu 8 (h:=tu 9 (h:=tu 10 (h:=tu 11 (h:= ?_))))))
  try simp only[nmC]
  refine tu 12 (h:=tu 13 (h:=tu 14 (h:=tu 15 (h:=tu 16 (h:=tu 17 (h:= ?_))))))
  try simp only[nmC]
  refine tu 18 (h:=tu 19 (h:=tu 20 (h:=tu 21 (h:=tk 22 (h:= ?_)))))
  try simp only[nmC]
  refine wpAnyG_done (by kernel_rfl) ?_ _
  go_wp2_with fail
  go_ret
  rw[←HY2.out]
  exact⟨rfl,⟨HB.out.box,HB.out.le⟩,hF.drewN _⟩
 |none=>
  simp only[badI] at k2
  by_cases h0:n<0
  ·rw[if_pos ⟨rfl,.inl h0⟩] at hy
   have HY2:=Lib.hid hy
   have HBe:Hid (∀n,BrAt rb b ⟨at_,none⟩ (w1.drewN n)):=Lib.hid fun n=>⟨HB.out.box,HB.out.le⟩
   clear hy
   have d0:decide (n<0)=true:=decide_eq_true h0
   refine wp_region_G [] (fun x=>x.cell? ⟨rb,0,none⟩=some (.string ⟨⟨b⟩⟩)∧x.cell? ⟨rb,1,none⟩=some (.int .i64 at_)∧x.cell? ⟨rb,2,none⟩=some (.int .i64 (-1))) (by rfl) ?_ (fun hHeld=> ?_)
   ·exact⟨k0,k1,k2⟩
   refine tk 0 (h:=tk 1 (h:=tk 2 (h:=tk 3 (h:=tk 4 (h:=tk 5 (h:= ?_))))))
   try simp only[nmC]
   refine tk 6 (h:=tk 7 (h:=tk 8 (h:=tu 9 (h:=tu 10 (h:=tu 11 (h:= ?_))))))
   try simp only[nmC]
   refine tu 12 (h:=tu 13 (h:=tu 14 (h:=tu 15 (h:=tu 16 (h:=tu 17 (h:= ?_))))))
   try simp only[nmC]
   refine tu 18 (h:=tu 19 (h:=tu 20 (h:=tk 21 (h:=tk 22 (h:= ?_)))))
   try simp only[nmC]
   refine wpAnyG_done (by kernel_rfl) ?_ _
   go_wp2_with fail
   go_at_call 103;refine(fail_any (HBe.out _) fr).mono ?_;rintro e w2 ⟨rfl,hB2,hF2⟩
   go_wp2_with fail
   go_ret
   rw[←HY2.out]
   exact⟨rfl,hB2,Foot.trans (hF.drewN _) (hF2.mono hF.size fun _ _ h=>h)⟩
  ·have d0:decide (n<0)=false:=decide_eq_false h0
   by_cases h3:((b.length:Int)-at_)<n
   ·rw[if_pos ⟨rfl,.inr h3⟩] at hy
    have HY2:=Lib.hid hy
    have HBe:Hid (∀n,BrAt rb b ⟨at_,none⟩ (w1.drewN n)):=Lib.hid fun n=>⟨HB.out.box,HB.out.le⟩
    clear hy
    have d3:decide ((b.length:Int)-at_<n)=true:=decide_eq_true h3
    refine wp_region_G [] (fun x=>x.cell? ⟨rb,0,none⟩=some (.string ⟨⟨b⟩⟩)∧x.cell? ⟨rb,1,none⟩=some (.int .i64 at_)∧x.cell? ⟨rb,2,none⟩=some (.int .i64 (-1))) (by rfl) ?_ (fun hHeld=> ?_)
    ·exact⟨k0,k1,k2⟩
    refine tk 0 (h:=tk 1 (h:=tk 2 (h:=tk 3 (h:=tk 4 (h:=tk 5 (h:= ?_))))))
    try simp only[nmC]
    refine tk 6 (h:=tk 7 (h:=tk 8 (h:=tk 9 (h:=tk 10 (h:=tk 11 (h:= ?_))))))
    try simp only[nmC]
    refine tk 12 (h:=tk 13 (h:=tk 14 (h:=tk 15 (h:=tk 16 (h:=tk 17 (h:= ?_))))))
    try simp only[nmC]
    refine tk 18 (h:=tk 19 (h:=tk 20 (h:=tk 21 (h:=tk 22 (h:= ?_)))))
    try simp only[nmC]
    refine wpAnyG_done (by kernel_rfl) ?_ _
    go_wp2_with fail
    go_at_call 103;refine(fail_any (HBe.out _) fr).mono ?_;rintro e w2 ⟨rfl,hB2,hF2⟩
    go_wp2_with fail
    go_ret
    rw[←HY2.out]
    exact⟨rfl,hB2,Foot.trans (hF.drewN _) (hF2.mono hF.size fun _ _ h=>h)⟩
   ·rw[if_neg (by rintro⟨_,e|e⟩;exact h0 e;exact h3 e)] at hy
    have HY2:=Lib.hid hy
    clear hy
    have d3:decide ((b.length:Int)-at_<n)=false:=decide_eq_false h3
    refine wp_region_G [] (fun x=>x.cell? ⟨rb,0,none⟩=some (.string ⟨⟨b⟩⟩)∧x.cell? ⟨rb,1,none⟩=some (.int .i64 at_)∧x.cell? ⟨rb,2,none⟩=some (.int .i64 (-1))) (by rfl) ?_ (fun hHeld=> ?_)
    ·exact⟨k0,k1,k2⟩
    refine tk 0 (h:=tk 1 (h:=tk 2 (h:=tk 3 (h:=tk 4 (h:=tk 5 (h:= ?_))))))
    try simp only[nmC]
    refine tk 6 (h:=tk 7 (h:=tk 8 (h:=tk 9 (h:=tk 10 (h:=tk 11 (h:= ?_))))))
    try simp only[nmC]
    refine tk 12 (h:=tk 13 (h:=tk 14 (h:=tk 15 (h:=tk 16 (h:=tk 17 (h:= ?_))))))
    try simp only[nmC]
    refine tk 18 (h:=tk 19 (h:=tk 20 (h:=tk 21 (h:=tk 22 (h:= ?_)))))
    try simp only[nmC]
    refine wpAnyG_done (by kernel_rfl) ?_ _
    go_wp2_with fail
    go_ret
    rw[←HY2.out]
    exact⟨rfl,⟨HB.out.box,HB.out.le⟩,hF.drewN _⟩
theorem ba_piece' (l:List UInt8) (i j:Nat):(⟨⟨l⟩⟩:ByteArray).extract i (i+j)=⟨⟨(l.drop i).take j⟩⟩:=by
 apply ByteArray.ext
 simp
theorem rtext_any {rb:Nat} {b:List UInt8} {r:Drd} {w:World} (h:BrAt rb b r w) (hbl:b.length≤140737488351232):Calls Tryz.prog 61 #[.pointer (some ⟨rb,0,none⟩)] w fun e w'=>e= .returned (.string ⟨⟨(textD b r).1⟩⟩)∧BrAt rb b (textD b r).2 w'∧RF rb w w':=by
 have H:=Lib.hid h
 clear h
 obtain⟨Y,HY⟩:∃Y,Hid (textD b r=Y):=⟨_,rfl⟩
 rw[HY.out]
 have hok:=many_ok (b:=b) (r:=r)
 obtain⟨n,x,hx⟩:∃n x,manyD b r=(n,x):=⟨_,_,rfl⟩
 have hy:=HY.out
 unfold textD at hy
 rw[hx] at hy hok
 dsimp only at hy hok
 have HN:=Lib.hid (many_any H.out hbl)
 rw[hx] at HN
 dsimp only at HN
 obtain⟨at_,bad⟩:=x
 dsimp only at hy hok
 clear hx
 go_enter Tryz.func61,Tryz.ntmps61
 cases bad with
 |some m=>
  rw[if_neg (by simp)] at hy
  have HY2:=Lib.hid hy
  clear hy hok
  go_wp2_with (go_at_call 60;refine HN.out.mono ?_;rintro e w1 ⟨rfl,hB,hF⟩;have k2:=hB.c2;have HB:=Lib.hid hB;clear hB;simp only[badI] at k2)
  go_ret
  rw[←HY2.out]
  exact⟨rfl,HB.out,hF⟩
 |none=>
  rw[if_pos rfl] at hy
  obtain⟨hn0,hn1⟩:=hok rfl
  obtain⟨m,rfl⟩:=Int.eq_ofNat_of_zero_le hn0
  have HY2:=Lib.hid hy
  have hn2:m+at_≤b.length:=by omega
  clear hy hok hn0 hn1
  go_wp2_with (go_at_call 60;refine HN.out.mono ?_;rintro e w1 ⟨rfl,hB,hF⟩;have k0:=hB.c0;have k1:=hB.c1;have k2:=hB.c2;have g1:=hB.f 1;have HB:=Lib.hid hB;clear hB;simp only[badI] at k1 k2)
  have hex:=ba_piece' b at_ m
  go_quiet (fail)
  go_wp2_with fail
  go_ret
  rw[←HY2.out]
  refine⟨by simp;exact hex,⟨heap_setCell_same _ _ 1 _ _ _ HB.out.box,by show at_+m≤_;omega⟩, ?_⟩
  exact Foot.drewN (Foot.set (g:=fun k=>k=rb) (p:=⟨rb,1,none⟩) hF (.inr rfl) _) _
end Go.Proofs.YtagnicbknbmccaaGreatDoor
