/- guiseref13.fits: the stacks of a function's instructions. -/
import Derived.Deep.OwnRows
import Derived.Deep.LoopGhost
import Derived.Deep.DeepCutAuto
import Derived.Test.YtagnicbknbmccaaGreatDoorMCwF
import Derived.Test.YtagnicbknbmccaaGreatDoorSqC
import Derived.Test.YtagnicbknbmccaaGreatDoorMCyK
import Derived.Test.YtagnicbknbmccaaGreatDoorMCyP
import Derived.Test.YtagnicbknbmccaaGreatDoorMCyJ
set_option maxRecDepth 100000
set_option maxHeartbeats 40000000
namespace Go.Proofs.YtagnicbknbmccaaGreatDoor
open Go.RowKit
theorem made_rep (n:Nat):(madeCells #[.int .i64 0] n).toList=intsV (List.replicate n 0):=by
 apply List.ext_getElem?
 intro j
 unfold intsV madeCells
 simp only[Array.toList_map,List.getElem?_map,List.getElem?_replicate]
 by_cases h:j<n
 ·rw[if_pos h]
  simp[h,Nat.mod_one]
 ·rw[if_neg h]
  simp[h]
theorem own_made {W:World} {b n:Nat} (h:W.heap[b]? =some (.cells (madeCells #[.int .i64 0] n) 3 (0,0))) (hn:n≤1000000):W.ownsRow 0 3 1 (.slice (some ⟨b,0,none⟩) n n) n (intsV (List.replicate n 0)):=by
 refine⟨by unfold intsV;simp,.inr ⟨b,n,madeCells #[.int .i64 0] n,rfl,Nat.zero_le _,h,Nat.le_refl _,by unfold maxLen;omega,by rw[size_madeCells,Nat.mul_one], ?_⟩⟩
 rw[made_rep,List.take_of_length_le (by unfold intsV;simp)]
def fitC (f:Nat) (r:Option Int):Option Cwr:=match r with
 |some e=>some ⟨130,f,some e⟩
 |none=>none
structure FhS (w w0 W:World) (sb hb br bp n:Nat) (pc:Array Value) (hs:List Int):Prop where
 sk:SkAt w0.heap.size w0 W sb (fun k=>k=hb∨k=br∨k=bp) [[]]
 hp:W.heap[bp]? =some (.cells pc 27 (0,0))
 hr:W.heap[br]? =some (.cells #[.int .i64 0,.int .i64 0,.string ⟨#[]⟩] 46 (0,0))
 oh:W.ownsRow 0 3 1 (.slice (some ⟨hb,0,none⟩) n n) n (intsV hs)
 lo:w0.heap.size≤hb
 ne:hb≠br∧hb≠bp
theorem FhS.set {w w0 W:World} {sb hb br bp n:Nat} {pc:Array Value} {hs:List Int} (h:FhS w w0 W sb hb br bp n pc hs) (i:Nat) (x:Int):FhS w w0 (W.setCell ⟨hb,i,none⟩ (.int .i64 x)) sb hb br bp n pc (hs.set i x):=by
 have hk:∀k,k≠hb→(W.setCell ⟨hb,i,none⟩ (.int .i64 x)).heap[k]? =W.heap[k]? :=fun k hk=>Below.heap_setCell _ _ _ _ hk
 exact⟨h.sk.setF (.inl rfl) h.lo i _,(hk bp h.ne.2.symm).trans h.hp,(hk br h.ne.1.symm).trans h.hr,own_put h.oh i x,h.lo,h.ne⟩
theorem minus_all {n:Nat} {hs:List Int} (hl:hs.length=n) (h:∀i,i<n→hs[i]? =some (-1)):HasR [[]] (hs.set 0 0) (some []::List.replicate n none) n:=fun i hi=>by
 cases i with
 |zero=>exact⟨0,by rw[List.getElem?_set,if_pos rfl,if_pos (by omega)],0,rfl,rfl⟩
 |succ i=>
  refine⟨-1,by rw[List.getElem?_set,if_neg (by omega)];exact h _ hi, ?_⟩
  rw[List.getD_eq_getElem?_getD,List.getElem?_cons_succ,List.getElem?_replicate]
  split<;>rfl
theorem none_done (n:Nat):DonR (List.replicate n 0) (List.replicate n false) n:=⟨by simp,fun i hi=>⟨0,by rw[List.getElem?_replicate,if_pos hi],.inl ⟨rfl,by rw[List.getD_eq_getElem?_getD,List.getElem?_replicate,if_pos hi];rfl⟩⟩⟩
theorem r13_fits {p:Cp} {n m fc gc:Nat} {fa ga:Option Addr} {xs:List (Cf×Fv)} {w:World} (hp:PgAt w p n m fa ga xs) {f:Nat} {o:Cf} (ho:p.funcs[f]? =some o) (h0:0<o.code.length) (hcl:o.code.length≤60000) (hin:∀(k:Nat) (x:Ci),o.code[k]? =some x→InOk o.code.length k x) (hfit:∀(k:Nat) (x:Ci),o.code[k]? =some x→FitI o.code k x):
  Calls Tryz.prog 51 #[.agg #[.slice fa n fc,.slice ga m gc],.int .i64 f] w (WvPost (fitC f (fitsP o.code)) w):=by
 have hrun:=fits_run h0 hfit
 obtain⟨R,hR⟩:∃R,fitsP o.code=R:=⟨_,rfl⟩
 rw[hR] at hrun⊢
 obtain⟨g,off,fv,hfa,hlf,c0,c1,c2,c3,c4,c5⟩:=hp.func ho
 have hfn:f<n:=by rw[←hp.fn];exact(List.getElem?_eq_some_iff.1 ho).1
 have hgw:g<w.heap.size:=World.block_lt_of_cell? w ⟨g,off+f*6,none⟩ c0
 obtain⟨gc',oc,hca,hgl,hcells⟩:=hlf.2.1.at (by rw[flat_len ins_len];show 0<o.code.length*5;omega)
 have HCL:Hid (∀W,Below w.heap.size w W→∀(k:Nat) (x:Ci),o.code[k]? =some x→W.cell? ⟨gc',oc+k*5,none⟩=some (.int .i64 x.op)∧W.cell? ⟨gc',oc+k*5+1,none⟩=some (.int .i64 x.a)∧W.cell? ⟨gc',oc+k*5+2,none⟩=some (.int .i64 x.b)∧W.cell? ⟨gc',oc+k*5+3,none⟩=some (.string x.text)∧W.cell? ⟨gc',oc+k*5+4,none⟩=some (.int .i64 x.at_)):=Lib.hid fun W hb k x hx=>by
  obtain⟨d0,d1,d2,d3,d4⟩:=ins_at hcells hx
  have hc:∀j v,w.cell? ⟨gc',j,none⟩=some v→W.cell? ⟨gc',j,none⟩=some v:=fun j v h=>(hb.cell (p:=⟨gc',j,none⟩) hgl).trans h
  exact⟨hc _ _ d0,hc _ _ d1,hc _ _ d2,hc _ _ d3,hc _ _ d4⟩
 have hca:fv.ca=some ⟨gc',oc,none⟩:=hca
 rw[hca] at c5
 subst hfa
 obtain⟨cn,hcn⟩:∃cn,o.code.length=cn:=⟨_,rfl⟩
 have HRUN:=Lib.hid hrun
 have HIN:=Lib.hid hin
 rw[hcn] at c5 h0 hcl HIN HRUN
 have HCN:=Lib.hid hcn
 clear hrun hin hfit hR hlf hcells hca hcn ho hp hgl
 obtain⟨i0,hi,hz0,hz1,hz2⟩:=info_parts intInfoR
 have hmk:=fun W=>run_make_row (P:=Tryz.prog) 22 3 i0 (.int .i64 0) Tryz.underlying22 hi hz0 hz1 rfl .i64 .i64 cn (by rw[hz2];omega) (by omega) W
 unfold WvPost
 go_enter Tryz.func51,Tryz.ntmps51
 go_upto_region 2 with fail
 have hB2:Below w.heap.size w ((w.alloc (.cells #[.slice (some ⟨g,off,none⟩) n fc,.slice ga m gc] 27 (0,0))).alloc (.cells #[.int .i64 0,.int .i64 0,.string ⟨#[]⟩] 46 (0,0))):=((Below.refl _ _).alloc (Nat.le_refl _) _).alloc (by simp) _
 have hbp0:((w.alloc (.cells #[.slice (some ⟨g,off,none⟩) n fc,.slice ga m gc] 27 (0,0))).alloc (.cells #[.int .i64 0,.int .i64 0,.string ⟨#[]⟩] 46 (0,0))).heap[w.heap.size]? =some (.cells #[.slice (some ⟨g,off,none⟩) n fc,.slice ga m gc] 27 (0,0)):=by
  rw[heap_alloc_old _ _ (by simp)];exact heap_alloc_new _ _
 have hbr0:((w.alloc (.cells #[.slice (some ⟨g,off,none⟩) n fc,.slice ga m gc] 27 (0,0))).alloc (.cells #[.int .i64 0,.int .i64 0,.string ⟨#[]⟩] 46 (0,0))).heap[w.heap.size+1]? =some (.cells #[.int .i64 0,.int .i64 0,.string ⟨#[]⟩] 46 (0,0)):=by
  have:=heap_alloc_new (w.alloc (.cells #[.slice (some ⟨g,off,none⟩) n fc,.slice ga m gc] 27 (0,0))) (.cells #[.int .i64 0,.int .i64 0,.string ⟨#[]⟩] 46 (0,0))
  rwa [World.size_alloc] at this
 have hsz0:((w.alloc (.cells #[.slice (some ⟨g,off,none⟩) n fc,.slice ga m gc] 27 (0,0))).alloc (.cells #[.int .i64 0,.int .i64 0,.string ⟨#[]⟩] 46 (0,0))).heap.size=w.heap.size+2:=by simp
 obtain⟨w0,hw0⟩:∃w0,(w.alloc (.cells #[.slice (some ⟨g,off,none⟩) n fc,.slice ga m gc] 27 (0,0))).alloc (.cells #[.int .i64 0,.int .i64 0,.string ⟨#[]⟩] 46 (0,0))=w0:=⟨_,rfl⟩
 simp only[hw0] at hB2 hbp0 hbr0 hsz0⊢
 obtain⟨bp,hbp⟩:∃bp,w.heap.size=bp:=⟨_,rfl⟩
 obtain⟨br,hbr⟩:∃br,bp+1=br:=⟨_,rfl⟩
 simp only[hbp] at hbp0 hbr0 hsz0⊢
 simp only[hbr] at hbr0⊢
 have HB2:=Lib.hid hB2
 have HBP:=Lib.hid hbp
 have HBR:=Lib.hid hbr
 have HP0:=Lib.hid hbp0
 have HR0:=Lib.hid hbr0
 have HSZ0:=Lib.hid hsz0
 clear hB2 hbp0 hbr0 hsz0 hw0 hbp hbr c0 c1 c2 c3 c4 c5 hgw
 go_upto_region 3 with(go_at_call 98;refine(r13_empty _).mono ?_;rintro e w1 ⟨sb,rfl,hsb,hsk⟩;have HSK:=Lib.hid hsk;clear hsk)
 have hb1:Below w0.heap.size w0 w1:=by obtain⟨_,_,_,_,_,_,_,_,_,_,_,_,hR,_,_,_⟩:=HSK.out;exact hR.low
 have HB1:=Lib.hid hb1
 clear hb1
 go_upto_region 4 with fail
 have hnew:=heap_alloc_new w1 (.cells (madeCells #[.int .i64 0] cn) 3)
 have hA:Below w1.heap.size w1 (w1.alloc (.cells (madeCells #[.int .i64 0] cn) 3)):=(Below.refl _ _).alloc (Nat.le_refl _) _
 have hszA:=World.size_alloc w1 (.cells (madeCells #[.int .i64 0] cn) 3)
 obtain⟨hb,hhb⟩:∃hb,w1.heap.size=hb:=⟨_,rfl⟩
 have hle1:w0.heap.size≤hb:=by rw[←hhb];exact HB1.out.size
 have hbr1:br<w0.heap.size∧bp<w0.heap.size:=by have:=HSZ0.out;have:=HBR.out;omega
 have hF0:FhS w w0 (w1.alloc (.cells (madeCells #[.int .i64 0] cn) 3)) sb hb br bp cn #[.slice (some ⟨g,off,none⟩) n fc,.slice ga m gc] (List.replicate cn 0):=by
  refine⟨HSK.out.grow hA (fun k hk=> ?_) (fun k hk=> ?_),(hA.block bp (by omega)).trans ((HB1.out.block bp hbr1.2).trans HP0.out),(hA.block br (by omega)).trans ((HB1.out.block br hbr1.1).trans HR0.out),own_made (by rw[←hhb];exact hnew) (by omega),hle1,⟨by omega,by omega⟩⟩
  ·rcases hk with rfl|rfl|rfl
   ·exact .inr (.inl (by omega))
   ·exact .inr (.inr hbr1.1)
   ·exact .inr (.inr hbr1.2)
  ·rcases hk with rfl|rfl|rfl<;>omega
 obtain⟨W2,hW2⟩:∃W2,w1.alloc (.cells (madeCells #[.int .i64 0] cn) 3)=W2:=⟨_,rfl⟩
 simp only[hW2,hhb] at hF0⊢
 have HF0:=Lib.hid hF0
 have HHB:=Lib.hid hle1
 have HBW:=Lib.hid hbr1
 clear hF0 hnew hA hszA hhb hle1 hbr1 hW2 HSK HB1 HP0 HR0
 go_wp2_with fail
 go_loopw [8] (fun i wr=>∃(j:Nat) (hs:List Int),i= .int .i64 j∧j≤cn∧Hid (FhS w w0 wr sb hb br bp cn #[.slice (some ⟨g,off,none⟩) n fc,.slice ga m gc] hs)∧Hid (hs.length=cn∧∀i,i<j→hs[i]? =some (-1))) (fun i _=>cn-(intOf i).toNat)
 case atStart=>exact⟨0,_,rfl,Nat.zero_le _,HF0,Lib.hid ⟨by simp,fun i hi=>by omega⟩⟩
 case round=>
  clear HF0
  obtain⟨j,hs,rfl,hj,HF,HM⟩:=hrel
  by_cases hlt:j<cn
  ·obtain⟨x,hx⟩:∃x,hs[j]? =some x:=⟨_,List.getElem?_eq_getElem (by rw[HM.out.1];exact hlt)⟩
   obtain⟨q0,q1⟩:=own_at HF.out.oh hx
   have HF1:=Lib.hid (HF.out.set j (-1))
   have HM1:Hid ((hs.set j (-1)).length=cn∧∀i,i<j+1→(hs.set j (-1))[i]? =some (-1)):=Lib.hid ⟨by rw[List.length_set];exact HM.out.1,fun i hi=>by
    rw[List.getElem?_set]
    split
    ·rename_i e;rw[if_pos (by rw[HM.out.1];exact hlt)]
    ·exact HM.out.2 i (by omega)⟩
   clear hx HF HM
   go_wp2_with fail
   go_roundw
   case rel=>exact⟨j+1,_,by simp,by omega,HF1,HM1⟩
   case measure=>simp[intOf];omega
  ·obtain rfl:j=cn:=by omega
   clear hlt hj
   have hsl:=HM.out.1
   obtain⟨x0,hx0⟩:∃x,hs[0]? =some x:=⟨_,List.getElem?_eq_getElem (by omega)⟩
   have hsz:=HF.out.oh.lt hb rfl
   have hA:Below wr.heap.size wr (wr.alloc (.cells (madeCells #[.int .i64 0] j) 3 (0,0))):=(Below.refl _ _).alloc (Nat.le_refl _) _
   have hnew:=heap_alloc_new wr (.cells (madeCells #[.int .i64 0] j) 3 (0,0))
   have hszA:=World.size_alloc wr (.cells (madeCells #[.int .i64 0] j) 3 (0,0))
   have hbpW:=(Array.getElem?_eq_some_iff.1 HF.out.hp).1
   have hbrW:=(Array.getElem?_eq_some_iff.1 HF.out.hr).1
   have hle:w0.heap.size≤wr.heap.size:=by have:=HHB.out;omega
   obtain⟨hbr1,hbp1⟩:=HBW.out
   have hF1:FtS w w0 (wr.alloc (.cells (madeCells #[.int .i64 0] j) 3 (0,0))) sb hb wr.heap.size br bp j #[.slice (some ⟨g,off,none⟩) n fc,.slice ga m gc] [[]] hs (List.replicate j 0):=by
    refine⟨HF.out.sk.grow hA (fun k hk=> ?_) (fun k hk=> ?_),HB2.out,(hA.block bp hbpW).trans HF.out.hp,(hA.block br hbrW).trans HF.out.hr,by have:=HBR.out;have:=HBP.out;omega,own_keepG HF.out.oh (hA.block hb hsz.2),own_made hnew (by omega),⟨HF.out.lo,hle⟩,⟨by omega,HF.out.ne.1,HF.out.ne.2,by omega,by omega⟩⟩
    ·rcases hk with rfl|rfl|rfl|rfl
     ·exact .inl (.inl rfl)
     ·exact .inr (.inl (Nat.le_refl _))
     ·exact .inl (.inr (.inl rfl))
     ·exact .inl (.inr (.inr rfl))
    ·rcases hk with rfl|rfl|rfl|rfl<;>omega
   obtain⟨z0,z1⟩:=hF1.has hx0
   have HF2:=Lib.hid (hF1.setH 0 0)
   have HHR:=Lib.hid (minus_all HM.out.1 HM.out.2)
   have HDR:=Lib.hid (none_done j)
   have HRN:Hid (RnOk o.code (some []::List.replicate j none) (List.replicate j false) 0 R):=Lib.hid ⟨HRUN.out,fun j _=>Nat.zero_le j,fun s hs=>by
    rcases List.mem_cons.1 hs with e|e
    ·obtain rfl:=Option.some.inj e
     exact⟨Nat.zero_le _,fun c hc=>by cases hc⟩
    ·exact(nomatch List.eq_of_mem_replicate e),by rw[List.length_cons,List.length_replicate,HCN.out]⟩
   clear hx0 hsz hA hnew hszA hbpW hbrW hle hF1 HF HM hsl hbr1 hbp1
   obtain⟨db,hdb⟩:∃db,wr.heap.size=db:=⟨_,rfl⟩
   rw[hdb] at HF2
   have HDB:=Lib.hid hdb
   go_upto_region 9 with fail
   clear hdb
   go_wp2_with fail
   obtain⟨W4,hW4⟩:∃W4,(wr.alloc (.cells (madeCells #[.int .i64 0] j) 3 (0,0))).setCell ⟨hb,0,none⟩ (.int .i64 0)=W4:=⟨_,rfl⟩
   rw[hW4] at HF2
   simp only[hW4]
   clear hW4 z0 z1 HDB
   go_loopg [10] (j*(j+1)+j+1) (fun gk i wr=>∃(k:Nat) (S:List (List UInt8)) (a:List (Option (List UInt8))) (d:List Bool) (hs ds:List Int),i= .int .i64 k∧k≤j∧d.count false*(j+1)+(j-k)+1≤gk∧S.length+5*d.count false≤5*j+1∧d.count false≤j∧Hid (FtS w w0 wr sb hb db br bp j #[.slice (some ⟨g,off,none⟩) n fc,.slice ga m gc] S hs ds)∧Hid (HasR S hs a j)∧Hid (DonR ds d j)∧Hid (RnOk o.code a d k R))
   case atStart=>exact⟨0,_,_,_,_,_,rfl,Nat.zero_le _,by rw[List.count_replicate_self];omega,by rw[List.count_replicate_self];simp;omega,by rw[List.count_replicate_self];omega,HF2,HHR,HDR,HRN⟩
   case round=>
    clear HF2 HHR HDR HRN
    obtain⟨k,S,a,d,hs,ds,rfl,hk,hgk,hSl,hdl,HF,HHR,HDR,HRN⟩:=hrel
    cases gk with
    |zero=>exfalso;omega
    |succ gf=>
    by_cases hlt:k<j
    ·obtain⟨v,hv,hI⟩:=HHR.out k hlt
     obtain⟨y,hy,hY⟩:=HDR.out.2 k hlt
     obtain⟨q0,q1⟩:=HF.out.has hv
     obtain⟨t0,t1⟩:=HF.out.done hy
     cases hst:a.getD k none with
     |none=>
      rw[hst] at hI
      obtain rfl:v= -1:=hI
      have HRN2:=Lib.hid (HRN.out.skip (fun h=>h.2.1 hst))
      clear hst hY hv hy
      go_wp2_with fail
      go_roundg gf
      case rel=>exact⟨k+1,_,_,_,_,_,by simp,by omega,by omega,hSl,hdl,HF,HHR,HDR,HRN2⟩
      case measure=>omega
     |some s=>
      rw[hst] at hI
      obtain⟨i,rfl,hi⟩:=hI
      have b1:decide ((i:Int)<0)=false:=by simp
      rcases hY with⟨rfl,hd⟩|⟨rfl,hd⟩
      ·obtain⟨x,hx⟩:∃x,o.code[k]? =some x:=⟨_,List.getElem?_eq_getElem (by rw[HCN.out];exact hlt)⟩
       have hdk:d[k]? =some false:=by
        have h1:k<d.length:=by rw[HDR.out.1];exact hlt
        rw[List.getD_eq_getElem?_getD,List.getElem?_eq_getElem h1] at hd
        rw[List.getElem?_eq_getElem h1]
        exact congrArg some hd
       have hcnt:=cnt_setR d k hdk
       have hpend:PendB o.code a d k:=⟨by rw[HCN.out];exact hlt,by rw[hst];simp,hd⟩
       have hlens:=HF.out.lens
       have hF1:=HF.out.setD k 1
       have HD1:=Lib.hid (HDR.out.set (k:=k) hlens.2 hlt)
       have hIN:=HIN.out k x hx
       have HXX:=Lib.hid hx
       have HHK:=Lib.hid hv
       have HPN:=Lib.hid hpend
       have HSS:=Lib.hid hst
       obtain⟨c',hc'⟩:∃c',(d.set k true).count false=c':=⟨_,rfl⟩
       rw[hc'] at hcnt
       have HCC:=Lib.hid hc'
       clear hd hdk hpend hv hy hc'
       obtain⟨op,xa,xb,tx,xq⟩:=x
       go_upto_region 15 with fail
       obtain⟨W1,hW1⟩:∃W1,wr.setCell ⟨db,k,none⟩ (.int .i64 1)=W1:=⟨_,rfl⟩
       simp only[hW1] at hF1⊢
       have hFD:=hF1.under (show Below W1.heap.size W1 W1.drew from⟨rfl,rfl,rfl,Nat.le_refl _,fun _ _=>rfl⟩)
       obtain⟨d0,d1,d2,d3,d4⟩:=HCL.out W1.drew hFD.low k _ HXX.out
       obtain⟨q0,q1⟩:=hFD.has HHK.out
       dsimp only at d0 d1 d2 d3 d4
       have HFD:=Lib.hid hFD
       have HCALL:Hid (∀W,FtS w w0 W sb hb db br bp j #[.slice (some ⟨g,off,none⟩) n fc,.slice ga m gc] S hs (ds.set k 1)→Calls Tryz.prog 99 #[.pointer (some ⟨sb,0,none⟩),.agg #[.int .i64 op,.int .i64 xa,.int .i64 xb,.string tx,.int .i64 xq],.int .i64 i] W (DoesPost w0.heap.size w0 W sb (FtF hb db br bp) S (doesR ⟨op,xa,xb,tx,xq⟩ s))):=Lib.hid fun W h=>r13_does h.sk hi (by omega) hIN.op hIN.va
       have HII:=Lib.hid hIN
       clear hF1 hFD hW1 t0 t1 hi hIN
       refine wp_region_G [] (fun u=>u.cell? ⟨gc',oc+k*5,none⟩=some (.int .i64 op)∧u.cell? ⟨gc',oc+k*5+1,none⟩=some (.int .i64 xa)∧u.cell? ⟨gc',oc+k*5+2,none⟩=some (.int .i64 xb)∧u.cell? ⟨gc',oc+k*5+3,none⟩=some (.string tx)∧u.cell? ⟨gc',oc+k*5+4,none⟩=some (.int .i64 xq)∧u.cell? ⟨hb,k,none⟩=some (.int .i64 i)) (by rfl) ?_ (fun hHeld=> ?_)
       ·exact⟨d0,d1,d2,d3,d4,q0⟩
       generalize hwd:World.drew W1=wd at HFD d0 d1 d2 d3 d4 q0 q1 hHeld⊢
       refine tk 0 (h:=tk 1 (h:=tk 2 (h:=tk 3 (h:=tk 4 (h:=tk 5 (h:= ?_))))))
       try simp only[nmC]
       refine tk 6 (h:=tk 7 (h:=tk 8 (h:= ?_)))
       try simp only[nmC]
       refine rd1 9 fun KK hKK=> ?_
       go_simp
       go_at_call 99
       refine(HCALL.out _ HFD.out).mono ?_
       rintro e w3 ⟨x1,x2,ok,S',rfl,hsk,hpre,hln,hkF,hszz,hres⟩
       have HF3:=Lib.hid (HFD.out.move hsk hkF)
       have HPRE:=Lib.hid hpre
       have HRES:=Lib.hid hres
       clear HFD hsk hpre hkF hszz hres HCALL d0 d1 d2 d3 d4 q0 q1
       obtain⟨d0,d1,d2,d3,d4⟩:=HCL.out w3 HF3.out.low k _ HXX.out
       dsimp only at d0 d1 d2 d3 d4
       obtain⟨q0,q1⟩:=HF3.out.has HHK.out
       refine hKK.out _ _ (⟨d0,d1,d2,d3,d4,q0⟩) (fun hHeld=> ?_)
       clear hKK KK
       try simp only[nmC]
       refine tk 10 (h:=tk 11 (h:=tk 12 (h:=tk 13 (h:=tk 14 (h:=tk 15 (h:= ?_))))))
       try simp only[nmC]
       refine tk 16 (h:= ?_)
       try simp only[nmC]
       refine wpAnyG_done (by kernel_rfl) ?_ _
       have HHK2:=Lib.hid HHK.out
       clear d0 d1 d2 d3 d4 q0 q1 hHeld hwd
       obtain⟨hg,hc,h0,hAll⟩:=HF3.out.sk.highs
       have HALL:=Lib.hid hAll
       clear hAll
       go_upto_region 16 with fail
       go_cut [106] (fun v wc=>v= .bool (decide (stepR ⟨op,xa,xb,tx,xq⟩ s=none))∧wc=w3)
       case first=>as_aux_lemma=>
        cases hd:doesR ⟨op,xa,xb,tx,xq⟩ s with
        |none=>
         have hr:=HRES.out
         rw[hd] at hr
         obtain rfl:ok=false:=hr
         have hst:decide (stepR ⟨op,xa,xb,tx,xq⟩ s=none)=true:=by unfold stepR;rw[hd];rfl
         have HST:=Lib.hid hst
         clear hd hst
         go_wp2_with fail
         go_meet
         case rel=>exact⟨congrArg Value.bool HST.out.symm,rfl⟩
        |some q=>
         have hr:=HRES.out
         rw[hd] at hr
         obtain⟨o1,o2⟩:=q
         obtain⟨rfl,hi1,hi2⟩:ok=true∧Idx S' x1 o1∧Idx S' x2 o2:=hr
         have hst:stepR ⟨op,xa,xb,tx,xq⟩ s=if tooHigh o1||tooHigh o2 then none else some (o1,o2):=by unfold stepR;rw[hd]
         clear hd
         cases o1 with
         |none=>
          obtain rfl:x1= -1:=hi1
          cases o2 with
          |none=>
           obtain rfl:x2= -1:=hi2
           have HST:Hid (decide (stepR ⟨op,xa,xb,tx,xq⟩ s=none)=false):=Lib.hid (by rw[hst];rfl)
           clear hst
           go_wp2_with fail
           go_meet
           case rel=>exact⟨congrArg Value.bool HST.out.symm,rfl⟩
          |some t2=>
           obtain⟨i2,rfl,hi2⟩:=hi2
           obtain⟨l2,h2⟩:=HALL.out i2 t2 hi2
           have b2:decide (0≤(i2:Int))=true:=by simp
           by_cases g2:30000<t2.length
           ·have b3:decide (30000<(t2.length:Int))=true:=by simp;omega
            have b4:(tooHigh (none:Option (List UInt8))||tooHigh (some t2))=true:=by unfold tooHigh;simp;omega
            have HST:=Lib.hid (show decide (stepR ⟨op,xa,xb,tx,xq⟩ s=none)=true by rw[hst,b4];rfl)
            clear hst b4 hi2 g2
            go_wp2_with fail
            go_meet
            case rel=>exact⟨congrArg Value.bool HST.out.symm,rfl⟩
           ·have b3:decide (30000<(t2.length:Int))=false:=by simp;omega
            have b4:(tooHigh (none:Option (List UInt8))||tooHigh (some t2))=false:=by unfold tooHigh;simp;omega
            have HST:=Lib.hid (show decide (stepR ⟨op,xa,xb,tx,xq⟩ s=none)=false by rw[hst,b4];rfl)
            clear hst b4 hi2 g2
            go_wp2_with fail
            go_meet
            case rel=>exact⟨congrArg Value.bool HST.out.symm,rfl⟩
         |some t1=>
          obtain⟨i1,rfl,hi1⟩:=hi1
          obtain⟨l1,h1⟩:=HALL.out i1 t1 hi1
          have b1:decide (0≤(i1:Int))=true:=by simp
          by_cases g1:30000<t1.length
          ·have b3:decide (30000<(t1.length:Int))=true:=by simp;omega
           have b4:(tooHigh (some t1)||tooHigh o2)=true:=by unfold tooHigh;simp;omega
           have HST:=Lib.hid (show decide (stepR ⟨op,xa,xb,tx,xq⟩ s=none)=true by rw[hst,b4];rfl)
           clear hst b4 hi1 g1 hi2
           go_wp2_with fail
           go_meet
           case rel=>exact⟨congrArg Value.bool HST.out.symm,rfl⟩
          ·have b3:decide (30000<(t1.length:Int))=false:=by simp;omega
           cases o2 with
           |none=>
            obtain rfl:x2= -1:=hi2
            have b4:(tooHigh (some t1)||tooHigh none)=false:=by unfold tooHigh;simp;omega
            have HST:=Lib.hid (show decide (stepR ⟨op,xa,xb,tx,xq⟩ s=none)=false by rw[hst,b4];rfl)
            clear hst b4 hi1 g1
            go_wp2_with fail
            go_meet
            case rel=>exact⟨congrArg Value.bool HST.out.symm,rfl⟩
           |some t2=>
            obtain⟨i2,rfl,hi2⟩:=hi2
            obtain⟨l2,h2⟩:=HALL.out i2 t2 hi2
            have b2:decide (0≤(i2:Int))=true:=by simp
            by_cases g2:30000<t2.length
            ·have b5:decide (30000<(t2.length:Int))=true:=by simp;omega
             have b4:(tooHigh (some t1)||tooHigh (some t2))=true:=by unfold tooHigh;simp;omega
             have HST:=Lib.hid (show decide (stepR ⟨op,xa,xb,tx,xq⟩ s=none)=true by rw[hst,b4];rfl)
             clear hst b4 hi1 hi2 g1 g2
             go_wp2_with fail
             go_meet
             case rel=>exact⟨congrArg Value.bool HST.out.symm,rfl⟩
            ·have b5:decide (30000<(t2.length:Int))=false:=by simp;omega
             have b4:(tooHigh (some t1)||tooHigh (some t2))=false:=by unfold tooHigh;simp;omega
             have HST:=Lib.hid (show decide (stepR ⟨op,xa,xb,tx,xq⟩ s=none)=false by rw[hst,b4];rfl)
             clear hst b4 hi1 hi2 g1 g2
             go_wp2_with fail
             go_meet
             case rel=>exact⟨congrArg Value.bool HST.out.symm,rfl⟩
       case rest=>
        obtain⟨rfl,rfl⟩:=hcut
        cases hst:stepR ⟨op,xa,xb,tx,xq⟩ s with
        |none=>
         have hr:=HRN.out.bad HPN.out HXX.out HSS.out (by rw[HCN.out];exact HII.out) (round_none HXX.out HSS.out hst)
         subst hr
         have hB:decide (stepR ⟨op,xa,xb,tx,xq⟩ s=none)=true:=by rw[hst];rfl
         have HDG:Hid (∀W,Calls Tryz.prog 94 #[.int .i64 k] W fun e w'=>e= .returned (.string ⟨⟨Lib.itoa k⟩⟩)∧Below W.heap.size W w'):=Lib.hid fun W=>r6_Digits k ⟨by omega,by omega⟩ W
         clear hst
         go_wp2_with (first|(go_at_call 94;refine(HDG.out _).mono ?_;rintro e w4 ⟨rfl,hb⟩;have HS8:=Lib.hid (HF3.out.bd.under hb);clear hb)|(go_at_call 48;refine(r13_no _ _ _).mono ?_;rintro e w9 ⟨rfl,hb⟩;have HS9:=Lib.hid (HS8.out.under hb);obtain⟨r0,r1,r2,z0,z1,z2⟩:=HS9.out.rc;clear hb))
         obtain⟨e0,e1,e2,hbw⟩:=HS9.out.ret (.int .i64 130) (.int .i64 f) (.string ⟨⟨Lib.itoa k⟩⟩)
         exact bodyPost_ret (wrong_result rfl _ _ br _ _ _ rfl e0 e1 e2) rfl ⟨rfl,hbw⟩
        |some q=>
         have hB:decide (stepR ⟨op,xa,xb,tx,xq⟩ s=none)=false:=by rw[hst];rfl
         have HST:=Lib.hid hst
         clear hst
         obtain⟨d0,d1,d2,d3,d4⟩:=HCL.out wc HF3.out.low k _ HXX.out
         dsimp only at d0 d1 d2 d3 d4
         have HDS:Hid (doesR ⟨op,xa,xb,tx,xq⟩ s=some q):=Lib.hid (step_does HST.out)
         have hres:=HRES.out
         rw[HDS.out] at hres
         have HIDX:=Lib.hid hres.2
         clear hres HRES
         go_upto_region 21 with fail
         have hA:Below wc.heap.size wc ((wc.alloc (.cells #[.int .i64 ((k:Int)+1),.int .i64 xa] 3 (0,0))).alloc (.cells #[.int .i64 x1,.int .i64 x2] 3 (0,0))):=((Below.refl _ _).alloc (Nat.le_refl _) _).alloc (by simp) _
         have k1:((wc.alloc (.cells #[.int .i64 ((k:Int)+1),.int .i64 xa] 3 (0,0))).alloc (.cells #[.int .i64 x1,.int .i64 x2] 3 (0,0))).heap[wc.heap.size]? =some (.cells #[.int .i64 ((k:Int)+1),.int .i64 xa] 3 (0,0)):=by rw[heap_alloc_old _ _ (by simp)];exact heap_alloc_new _ _
         have k2:((wc.alloc (.cells #[.int .i64 ((k:Int)+1),.int .i64 xa] 3 (0,0))).alloc (.cells #[.int .i64 x1,.int .i64 x2] 3 (0,0))).heap[wc.heap.size+1]? =some (.cells #[.int .i64 x1,.int .i64 x2] 3 (0,0)):=by
          have:=heap_alloc_new (wc.alloc (.cells #[.int .i64 ((k:Int)+1),.int .i64 xa] 3 (0,0))) (.cells #[.int .i64 x1,.int .i64 x2] 3 (0,0))
          rwa [World.size_alloc] at this
         have hF5:=HF3.out.under hA
         have hhb:=(HF3.out.oh.lt hb rfl).2
         obtain⟨W5,hW5⟩:∃W5,(wc.alloc (.cells #[.int .i64 ((k:Int)+1),.int .i64 xa] 3 (0,0))).alloc (.cells #[.int .i64 x1,.int .i64 x2] 3 (0,0))=W5:=⟨_,rfl⟩
         simp only[hW5] at k1 k2 hF5⊢
         obtain⟨tb,htb⟩:∃tb,wc.heap.size=tb:=⟨_,rfl⟩
         simp only[htb] at k1 k2 hhb⊢
         obtain⟨wb,hwb⟩:∃wb,tb+1=wb:=⟨_,rfl⟩
         simp only[hwb] at k2⊢
         have hne:tb≠hb∧wb≠hb:=by omega
         have HNE:=Lib.hid hne
         have HF5:=Lib.hid hF5
         have HT5:=Lib.hid k1
         have HW5:=Lib.hid k2
         have HRD0:=Lib.hid (round_hands HXX.out HSS.out HST.out)
         have HAL:=HRN.out.al
         rw[HCN.out] at HAL
         have HAL:=Lib.hid HAL
         have HHR3:=Lib.hid (HHR.out.pre HPRE.out)
         clear hA k1 k2 hF5 hhb hW5 htb hwb hne d0 d1 d2 d3 d4 HF3 h0 hc
         go_wp2_with fail
         go_loopg [16,17] 3 (fun gk2 s16 s17 wr=>∃(jj l:Nat) (a':List (Option (List UInt8))) (hs':List Int),s16= .int .i64 l∧s17= .int .i64 jj∧jj≤2∧2-jj+1≤gk2∧l≤k+1∧Hid (a'.length=j+1)∧Hid (FtS w w0 wr sb hb db br bp j #[.slice (some ⟨g,off,none⟩) n fc,.slice ga m gc] S' hs' (ds.set k 1))∧Hid (HasR S' hs' a' j)∧Hid (wr.heap[tb]? =some (.cells #[.int .i64 ((k:Int)+1),.int .i64 xa] 3 (0,0)))∧Hid (wr.heap[wb]? =some (.cells #[.int .i64 x1,.int .i64 x2] 3 (0,0)))∧Hid (roundS o.code a k=handsS k xa q jj a')∧Hid (jj=2→∀tn:Nat,q.2≠none→xa=tn→(d.set k true).getD tn false=false→l≤tn))
         case atStart=>exact⟨0,k+1,a,hs,by simp,rfl,Nat.zero_le _,Nat.le_refl _,Nat.le_refl _,HAL,HF5,HHR3,HT5,HW5,HRD0,Lib.hid fun e=>by omega⟩
         case round=>
          clear HF5 HHR3 HT5 HW5 HRD0 HAL
          obtain⟨jj,l,a',hs',rfl,rfl,hjj,hgk2,hl,HAL,HF6,HH6,HTB,HWB,HRD,HLST⟩:=hrel
          cases gk with
          |zero=>exfalso;omega
          |succ gf2=>
          by_cases hj2:jj<2
          ·have h2:jj=0∨jj=1:=by omega
           have hI:Idx S' (wvN x1 x2 jj) (withN q jj):=by
            rcases h2 with rfl|rfl
            ·exact HIDX.out.1
            ·exact HIDX.out.2
           have p0:wr.cell? ⟨tb,jj,none⟩=some (.int .i64 (toN k xa jj)):=by
            rcases h2 with rfl|rfl
            ·exact(cell_of_row wr tb 0 _ _ _ HTB.out).trans rfl
            ·exact(cell_of_row wr tb 1 _ _ _ HTB.out).trans rfl
           have p1:wr.cell? ⟨wb,jj,none⟩=some (.int .i64 (wvN x1 x2 jj)):=by
            rcases h2 with rfl|rfl
            ·exact(cell_of_row wr wb 0 _ _ _ HWB.out).trans rfl
            ·exact(cell_of_row wr wb 1 _ _ _ HWB.out).trans rfl
           obtain⟨wv,hwv⟩:∃wv,wvN x1 x2 jj=wv:=⟨_,rfl⟩
           obtain⟨tv,htv⟩:∃tv,toN k xa jj=tv:=⟨_,rfl⟩
           rw[hwv] at p1 hI
           rw[htv] at p0
           clear h2 hwv
           cases hw:withN q jj with
           |none=>
            rw[hw] at hI
            obtain rfl:wv= -1:=hI
            have HRD2:=Lib.hid (HRD.out.trans (hands_none hj2 hw))
            have HL2:Hid (jj+1=2→∀tn:Nat,q.2≠none→xa=tn→(d.set k true).getD tn false=false→l≤tn):=Lib.hid fun e tn h1=>by
             obtain rfl:jj=1:=by omega
             exact absurd hw h1
            clear hw htv HRD HLST
            go_wp2_with fail
            go_roundg gf2
            case rel=>exact⟨jj+1,l,a',hs',rfl,by simp,by omega,by omega,hl,HAL,HF6,HH6,HTB,HWB,HRD2,HL2⟩
            case measure=>omega
           |some t=>
            rw[hw] at hI
            obtain⟨iw,rfl,hiw⟩:=hI
            obtain⟨tn,htn,htlt⟩:=to_in HII.out HDS.out hw
            have htn:toN k xa jj=(tn:Int):=htn
            rw[htv] at htn
            subst htn
            obtain⟨v,hv,hvI⟩:=HH6.out tn htlt
            obtain⟨z0,z1⟩:=HF6.out.has hv
            obtain⟨y,hy,hyI⟩:=HD1.out.2 tn htlt
            have b1:decide ((iw:Int)<0)=false:=by simp
            have HTV:=Lib.hid htv
            have HWW:=Lib.hid hw
            have HVV:=Lib.hid hv
            have HYY:=Lib.hid hy
            clear htv hw hv hy
            go_upto_region 25 with fail
            go_cut [154] (fun v154 wc=>∃nq,v154= .bool (badB (a'.getD tn none) t)∧wc=wr.drewN nq)
            case first=>as_aux_lemma=>
             cases hat:a'.getD tn none with
             |none=>
              rw[hat] at hvI
              obtain rfl:v= -1:=hvI
              have HBB:Hid (badB (a'.getD tn none) t=false):=Lib.hid (by rw[hat];rfl)
              clear hat
              go_quiet (fail)
              go_wp2_with fail
              go_meet
              case rel=>exact⟨_,congrArg Value.bool HBB.out.symm,rfl⟩
             |some u=>
              rw[hat] at hvI
              obtain⟨iu,rfl,hiu⟩:=hvI
              have b2:decide (0≤(iu:Int))=true:=by simp
              by_cases hut:t=u
              ·subst hut
               obtain rfl:=HF6.out.sk.inj hiw hiu
               have b3:((iw:Int) !=(iw:Int))=false:=by simp
               have HBB:Hid (badB (a'.getD tn none) t=false):=Lib.hid (by rw[hat];unfold badB;simp)
               clear hat
               go_quiet (fail)
               go_wp2_with fail
               go_meet
               case rel=>exact⟨_,congrArg Value.bool HBB.out.symm,rfl⟩
              ·have hne:iu≠iw:=fun e=>by
                subst e
                rw[hiw] at hiu
                exact hut (Option.some.inj hiu)
               have b3:((iu:Int) !=(iw:Int))=true:=by simp;omega
               have HBB:Hid (badB (a'.getD tn none) t=true):=Lib.hid (by rw[hat];unfold badB;simp;exact fun e=>hut e.symm)
               clear hat hut hne
               go_quiet (fail)
               go_wp2_with fail
               go_meet
               case rel=>exact⟨_,congrArg Value.bool HBB.out.symm,rfl⟩
            case rest=>
             obtain⟨nq,rfl,rfl⟩:=hcut
             cases hbb:badB (a'.getD tn none) t with
             |false=>
              have HRD2:=Lib.hid (HRD.out.trans (hands_set hj2 HWW.out HTV.out (badB_false hbb)))
              clear hbb
              have HAL2:Hid ((a'.set tn (some t)).length=j+1):=Lib.hid (by rw[List.length_set];exact HAL.out)
              have hH2:=HH6.out.set HF6.out.lens.1 htlt (by rw[HAL.out];omega) (x:=(iw:Int)) (t:=t) ⟨iw,rfl,hiw⟩
              have HH7:=Lib.hid hH2
              clear hH2 HRD HAL
              go_upto_region 27 with fail
              obtain⟨W6,hW6⟩:∃W6,wr.drewN nq=W6:=⟨_,rfl⟩
              have hF7:=HF6.out.under (show Below wr.heap.size wr (wr.drewN nq).drew from⟨rfl,rfl,rfl,Nat.le_refl _,fun _ _=>rfl⟩)
              have hT7:(wr.drewN nq).drew.heap[tb]? =some (.cells #[.int .i64 ((k:Int)+1),.int .i64 xa] 3 (0,0)):=HTB.out
              have hV7:(wr.drewN nq).drew.heap[wb]? =some (.cells #[.int .i64 x1,.int .i64 x2] 3 (0,0)):=HWB.out
              have p0:(wr.drewN nq).drew.cell? ⟨tb,jj,none⟩=some (.int .i64 tn):=p0
              have p1:(wr.drewN nq).drew.cell? ⟨wb,jj,none⟩=some (.int .i64 iw):=p1
              obtain⟨z0,z1⟩:=hF7.has HVV.out
              simp only[hW6] at hF7 hT7 hV7 p0 p1 z0 z1⊢
              have HF7:=Lib.hid hF7
              have HT7:=Lib.hid hT7
              have HV7:=Lib.hid hV7
              clear hF7 hT7 hV7 hW6 HF6 HTB HWB
              refine wp_region_G [10] (fun u=>u.cell? ⟨tb,jj,none⟩=some (.int .i64 tn)∧u.cell? ⟨wb,jj,none⟩=some (.int .i64 iw)) (by rfl) ?_ (fun hHeld=> ?_)
              ·exact⟨p0,p1⟩
              generalize hwd:World.drew W6=wd at HF7 HT7 HV7 p0 p1 z0 z1 hHeld⊢
              refine tk 0 (h:=tk 1 (h:=tk 2 (h:=tk 3 (h:=tk 4 (h:=tk 5 (h:= ?_))))))
              try simp only[nmC]
              refine tk 6 (h:=tk 7 (h:=tk 8 (h:=tk 9 (h:= ?_))))
              try simp only[nmC]
              refine rl1 10 fun KK hKK=> ?_
              go_simp
              refine hKK.out _ _ ?_
              clear hKK KK
              try simp only[nmC]
              refine wpAny_done (by kernel_rfl) ?_ _
              have HF8:=Lib.hid (HF7.out.setH tn (iw:Int))
              have HT8:Hid ((wd.setCell ⟨hb,tn,none⟩ (.int .i64 iw)).heap[tb]? =some (.cells #[.int .i64 ((k:Int)+1),.int .i64 xa] 3 (0,0))):=Lib.hid ((Below.heap_setCell _ _ _ _ HNE.out.1).trans HT7.out)
              have HV8:Hid ((wd.setCell ⟨hb,tn,none⟩ (.int .i64 iw)).heap[wb]? =some (.cells #[.int .i64 x1,.int .i64 x2] 3 (0,0))):=Lib.hid ((Below.heap_setCell _ _ _ _ HNE.out.2).trans HV7.out)
              have p0:(wd.setCell ⟨hb,tn,none⟩ (.int .i64 iw)).cell? ⟨tb,jj,none⟩=some (.int .i64 tn):=(World.cell?_of_block (a:=⟨tb,jj,none⟩) (Below.heap_setCell _ _ _ _ HNE.out.1)).trans p0
              obtain⟨y0,y1⟩:=HF8.out.done HYY.out
              clear z0 z1 p1 hwd hHeld HF7 HT7 HV7
              rcases hyI with⟨rfl,hyd⟩|⟨rfl,hyd⟩
              ·by_cases hlt2:tn<l
               ·have b6:decide ((tn:Int)<(l:Int))=true:=by simp;omega
                have HL2:Hid (jj+1=2→∀t':Nat,q.2≠none→xa=t'→(d.set k true).getD t' false=false→tn≤t'):=Lib.hid fun e t' _ h2 _=>by
                 obtain rfl:jj=1:=by omega
                 have h3:xa=(tn:Int):=HTV.out
                 omega
                clear hyd HLST
                go_wp2_with fail
                go_roundg gf2
                case rel=>exact⟨jj+1,tn,_,_,rfl,by simp,by omega,by omega,by omega,HAL2,HF8,HH7,HT8,HV8,HRD2,HL2⟩
                case measure=>omega
               ·have b6:decide ((tn:Int)<(l:Int))=false:=by simp;omega
                have HL2:Hid (jj+1=2→∀t':Nat,q.2≠none→xa=t'→(d.set k true).getD t' false=false→l≤t'):=Lib.hid fun e t' _ h2 _=>by
                 obtain rfl:jj=1:=by omega
                 have h3:xa=(tn:Int):=HTV.out
                 omega
                clear hyd HLST
                go_wp2_with fail
                go_roundg gf2
                case rel=>exact⟨jj+1,l,_,_,rfl,by simp,by omega,by omega,by omega,HAL2,HF8,HH7,HT8,HV8,HRD2,HL2⟩
                case measure=>omega
              ·have HL2:Hid (jj+1=2→∀t':Nat,q.2≠none→xa=t'→(d.set k true).getD t' false=false→l≤t'):=Lib.hid fun e t' _ h2 h4=>by
                obtain rfl:jj=1:=by omega
                have h3:xa=(tn:Int):=HTV.out
                obtain rfl:tn=t':=by omega
                rw[hyd] at h4
                cases h4
               clear hyd HLST
               go_wp2_with fail
               go_roundg gf2
               case rel=>exact⟨jj+1,l,_,_,rfl,by simp,by omega,by omega,by omega,HAL2,HF8,HH7,HT8,HV8,HRD2,HL2⟩
               case measure=>omega
             |true=>
              obtain⟨u,hat,hut⟩:=badB_true hbb
              have hr:=HRN.out.bad HPN.out HXX.out HSS.out (by rw[HCN.out];exact HII.out) (HRD.out.trans (hands_bad hj2 HWW.out HTV.out hat hut))
              subst hr
              have HDG:Hid (∀W,Calls Tryz.prog 94 #[.int .i64 tn] W fun e w'=>e= .returned (.string ⟨⟨Lib.itoa tn⟩⟩)∧Below W.heap.size W w'):=Lib.hid fun W=>r6_Digits tn ⟨by omega,by omega⟩ W
              clear hat hut
              have HS7:=Lib.hid (HF6.out.bd.under (show Below wr.heap.size wr (wr.drewN nq) from⟨rfl,rfl,rfl,Nat.le_refl _,fun _ _=>rfl⟩))
              go_wp2_with (first|(go_at_call 94;refine(HDG.out _).mono ?_;rintro e w4 ⟨rfl,hb⟩;have HS8:=Lib.hid (HS7.out.under hb);clear hb)|(go_at_call 48;refine(r13_no _ _ _).mono ?_;rintro e w9 ⟨rfl,hb⟩;have HS9:=Lib.hid (HS8.out.under hb);obtain⟨r0,r1,r2,z0,z1,z2⟩:=HS9.out.rc;clear hb))
              obtain⟨e0,e1,e2,hbw⟩:=HS9.out.ret (.int .i64 130) (.int .i64 f) (.string ⟨⟨Lib.itoa tn⟩⟩)
              exact bodyPost_ret (wrong_result rfl _ _ br _ _ _ rfl e0 e1 e2) rfl ⟨rfl,hbw⟩
          ·obtain rfl:jj=2:=by omega
           have HRN2:Hid (RnOk o.code a' (d.set k true) l R):=Lib.hid (HRN.out.good (by rw[HDR.out.1,HCN.out]) HPN.out HXX.out HSS.out (by rw[HCN.out];exact HII.out) (HRD.out.trans hands_done) hl (fun h=>by
            have hm:=getD_mem_some HSS.out
            have hq:=goes_with HII.out (HRN.out.st s hm).1 (HRN.out.st.not63 hm) HST.out h.1
            have hg:=HII.out.go (does_goes HDS.out hq)
            have h5:0≤xa:=hg.1
            have h6:d.getD xa.toNat false=false:=h.2.1
            have h7:xa.toNat≠k:=h.2.2
            exact HLST.out rfl xa.toNat hq (by omega) (by rw[List.getD_eq_getElem?_getD,List.getElem?_set,if_neg (fun e=>h7 e.symm),←List.getD_eq_getElem?_getD];exact h6)) (by rw[HAL.out,HCN.out]))
           have hM:(d.set k true).count false*(j+1)+(j-l)+1≤gf∧S'.length+5*(d.set k true).count false≤5*j+1∧(d.set k true).count false≤j:=by
            have h1:d.count false*(j+1)=c'*(j+1)+(j+1):=by rw[←hcnt,Nat.succ_mul]
            rw[HCC.out]
            omega
           have HMM:=Lib.hid hM
           clear hM
           clear HRD HLST HTB HWB hgk hgk2 hSl hdl hcnt hln
           go_wp2_with fail
           go_roundg gf
           case rel=>exact⟨l,S',a',d.set k true,hs',ds.set k 1,by simp,by omega,HMM.out.1,HMM.out.2.1,HMM.out.2.2,HF6,HH6,HD1,HRN2⟩
           case measure=>omega
      ·have HRN2:=Lib.hid (HRN.out.skip (fun h=>by have:=h.2.2;rw[hd] at this;cases this))
       clear hst hd hv hy hi
       go_wp2_with fail
       go_roundg gf
       case rel=>exact⟨k+1,_,_,_,_,_,by simp,by omega,by omega,hSl,hdl,HF,HHR,HDR,HRN2⟩
       case measure=>omega
    ·obtain rfl:k=j:=by omega
     have hr:=HRN.out.end (by rw[HCN.out];exact Nat.le_refl _)
     subst hr
     obtain⟨r0,r1,r2,z0,z1,z2⟩:=HF.out.bd.rc
     go_wp2_with fail
     obtain⟨e0,e1,e2,hbw⟩:=HF.out.bd.ret (.int .i64 0) (.int .i64 0) (.string ⟨#[]⟩)
     exact bodyPost_ret (wrong_result rfl _ _ br _ _ _ rfl e0 e1 e2) rfl ⟨rfl,hbw⟩
end Go.Proofs.YtagnicbknbmccaaGreatDoor
