/- What the condition on the package-level variables gives, in the seat of the Code statements; a start that meets the condition. What the condition on the package-level variables gives, in the seat of the Code statements. -/
import Derived.Test.YtagnicbknbmccaaGreatDoorRows
import Derived.Lay
import Derived.MakeChecks
import Derived.ChangeArms
import Derived.SizedLaws
import Derived.ProofKit
import Derived.OpenShut
import Derived.KernelRfl
import Derived.ChangeSame
import Derived.ChangeVars
import Derived.JoinedOf
import Derived.RowKit
import Derived.LaidLaws
import Derived.LaidHandle
import Derived.LaidMore
import Derived.Stop.Joined
import Derived.Deep.DeepHandedRow
import Derived.Lib.LaidU8
import Derived.Carry
import Derived.LaidSub
import Derived.Shelf.Vars
import Derived.Lib.LaidTab
import Derived.Test.YtagnicbknbmccaaGreatDoorMCwG
set_option maxRecDepth 100000
namespace Go.Proofs.YtagnicbknbmccaaGreatDoor
open Go.RowKit Go.ChangeShapes Go.WideShapes Go.ChangeAt
theorem own:ownKnob Tryz.prog.godebug=none:=by kernel_rfl
theorem laidOut:laidOutB Tryz.prog=true:=by kernel_rfl
def laidL:List (String×DataW Unit):=Rows.codeSpoiltRow.laid
def plainL:List (String×DataW Unit):=laidL.filter fun x=>x.2.handleName?.isNone
def handled (w:World) (g:Nat) (v:Value):World:= {w with heap:=w.heap.modify g fun o=>match o with| .cells _ t f=> .cells #[v] t f|o=>o}
def seatBase (P:Program) (u e:TypeId) (g:Nat) (os:Os):World:=handled (World.holding P os ⟨#[],#[],[]⟩) g (.iface u (.agg #[typeHandle P e]))
theorem laidMet_layAll {P:Program} {w0:World} {laid:List (String×DataW Unit)} (hf:w0.layFits P laid []=true) (hi:w0.layIfaces P laid (w0.layVars P laid)=true):laidMet P laid (w0.layVars P laid):=by
 have e1:(laid.filter fun x=>(laid.map (·.1)).contains x.1)=laid:=List.filter_eq_self.2 fun x hx=>List.contains_iff_mem.2 (List.mem_map.2 ⟨x,hx,rfl⟩)
 have e2:(laid.filter fun x=> !(laid.map (·.1)).contains x.1)=[]:=List.filter_eq_nil_iff.2 fun x hx=>by rw[List.contains_iff_mem.2 (List.mem_map.2 ⟨x,hx,rfl⟩)];simp
 exact laidMet_layVars (w0:=w0) (laid.map (·.1)) [] (by rw[e1]) (by rw[e1];exact hf) (by rw[e1];exact hi) (by rw[e2];exact LaidIn.none)
theorem seat_fits (os:Os):(seatBase Tryz.prog 198 38 0 os).layFits Tryz.prog plainL []=true:=by kernel_rfl
theorem seat_ifaces (os:Os):(seatBase Tryz.prog 198 38 0 os).layIfaces Tryz.prog plainL ((seatBase Tryz.prog 198 38 0 os).layVars Tryz.prog plainL)=true:=by kernel_rfl
theorem seat_handle (os:Os):(laidL.filter fun x=>x.2.handleName?.isSome).all (handleAtB Tryz.prog ((seatBase Tryz.prog 198 38 0 os).layVars Tryz.prog plainL))=true:=by kernel_rfl
theorem seat_laid (os:Os):laidMetH Tryz.prog laidL ((seatBase Tryz.prog 198 38 0 os).layVars Tryz.prog plainL):=laidMetH_of_parts (laidMet_layAll (seat_fits os) (seat_ifaces os)) (seat_handle os)
theorem seat_met (os:Os) (args:Array Value):laidMetH Tryz.prog laidL ((((seatBase Tryz.prog 198 38 0 os).layVars Tryz.prog plainL)).forCall (fun _ _=>0) ⟨#[],args,[]⟩).memory:=(seat_laid os).of_heap (by simp[World.memory,World.forCall,Input.heap])
theorem seat_shaped (os:Os) (args:Array Value):((((seatBase Tryz.prog 198 38 0 os).layVars Tryz.prog plainL)).forCall (fun _ _=>0) ⟨#[],args,[]⟩).Shaped Tryz.checked.prog:=World.shaped_of_ZipB (by kernel_rfl) (by kernel_rfl)
open Go.RowKit Go.ChangeShapes Go.WideShapes Go.ChangeAt
theorem cellsU64:Tryz.prog.cellsOf 131=1:=by kernel_rfl
theorem cellsU8:Tryz.prog.cellsOf 5=1:=by kernel_rfl
theorem cellsPow:Tryz.prog.cellsOf 270=20:=by kernel_rfl
theorem cellsSpace:Tryz.prog.cellsOf 212=256:=by kernel_rfl
theorem tPow:(Tryz.prog.globals[4]?).map (·.type)=some 270:=by kernel_rfl
theorem gSpace:Tryz.prog.globalNamed "strings.asciiSpace"=some 1:=by kernel_rfl
theorem tSpace:(Tryz.prog.globals[1]?).map (·.type)=some 212:=by kernel_rfl
theorem gSyn:Tryz.prog.globalNamed "strconv.ErrSyntax"=some 5:=by kernel_rfl
theorem gRng:Tryz.prog.globalNamed "strconv.ErrRange"=some 6:=by kernel_rfl
theorem tSyn:(Tryz.prog.globals[5]?).map (·.type)=some 38:=by kernel_rfl
theorem tRng:(Tryz.prog.globals[6]?).map (·.type)=some 38:=by kernel_rfl
theorem pow_tab:(Rows.laid_internal_strconv_uint64pow10:DataW Unit)=Lib.tabData .u64 Lib.pow10Tab:=by kernel_rfl
theorem space_tab:(Rows.laid_strings_asciiSpace:DataW Unit)=Lib.tabData .u8 Lib.asciiSpaceTab:=by kernel_rfl
theorem var_heap {W:World} {n:String} {g:Nat} {cs:Array Value} (hg:Tryz.prog.globalNamed n=some g) (hv:W.var? Tryz.prog n=some cs):∃t fr,W.heap[g]? =some (.cells cs t fr):=by
 unfold World.var? at hv
 rw[hg] at hv
 simp only[Option.bind_some] at hv
 split at hv
 ·rename_i cs t fr e
  obtain rfl:=Option.some.inj hv
  exact⟨t,fr,e⟩
 ·cases hv
theorem pow_of {W:World} (h:Lib.VarReads Tryz.prog W "internal/strconv.uint64pow10" Rows.laid_internal_strconv_uint64pow10):Lib.TabIs Tryz.prog W "internal/strconv.uint64pow10" .u64 Lib.pow10Tab:=by
 obtain⟨g,t,cs,fuel,p,hg,ht,hv,hd⟩:=h
 obtain rfl:=Option.some.inj (gPow.symm.trans hg)
 obtain rfl:=Option.some.inj (tPow.symm.trans ht)
 rw[pow_tab] at hd
 have hcs:=Lib.cells_of_tab Tryz.underlying270 Tryz.underlying131 cellsU64 cellsPow hd
 unfold Lib.TabIs
 rw[hv,←hcs]
theorem space_of {W:World} (h:Lib.VarReads Tryz.prog W "strings.asciiSpace" Rows.laid_strings_asciiSpace):∃t fr,W.heap[1]? =some (.cells spaceT t fr):=by
 obtain⟨g,t,cs,fuel,p,hg,ht,hv,hd⟩:=h
 obtain rfl:=Option.some.inj (gSpace.symm.trans hg)
 obtain rfl:=Option.some.inj (tSpace.symm.trans ht)
 rw[space_tab] at hd
 have hcs:=Lib.cells_of_tab Tryz.underlying212 Tryz.underlying5 cellsU8 cellsSpace hd
 have hcs':cs=spaceT:=by
  apply Array.toList_inj.1
  rw[hcs]
  rfl
 subst hcs'
 exact var_heap gSpace hv
theorem ifc_cells {H:Type} {enc:TypeId×Value→H} {w:World} {base:Nat} {sp:Nat→Bool} {held:Bool} {fuel:Nat} {cs:List Value} {n:String} {d:DataW H} {p:List MemPlace} (h:DataW.trod enc Tryz.prog w base sp held fuel 38 cs=some (.iface n d,p)):∃u v,cs=[.iface u v]:=by
 cases fuel with
 |zero=>simp[DataW.trod] at h
 |succ f=>
  unfold DataW.trod at h
  rw[Tryz.underlying38] at h
  match cs,h with
  | [.iface u v],_=>exact⟨u,v,rfl⟩
  | [.nilIface],h=>simp at h
  | [],h=>simp at h
  | [.int _ _],h=>simp at h
  | [.bool _],h=>simp at h
  | [.float _ _],h=>simp at h
  | [.string _],h=>simp at h
  | [.pointer _],h=>simp at h
  | [.slice _ _ _],h=>simp at h
  | [.agg _],h=>simp at h
  | [.map _],h=>simp at h
  | [.nilFunc],h=>simp at h
  | [.func _ _ _],h=>simp at h
  | [.chan _],h=>simp at h
  | [.tuple _],h=>simp at h
  |_::_::_,h=>simp at h
theorem ifc_of {W:World} {n m:String} {g:Nat} {d:DataW Unit} (hgn:Tryz.prog.globalNamed n=some g) (htn:(Tryz.prog.globals[g]?).map (·.type)=some 38) (h:Lib.VarReads Tryz.prog W n (.iface m d)):IfcAt W g:=by
 obtain⟨g',t,cs,fuel,p,hg,ht,hv,hd⟩:=h
 obtain rfl:=Option.some.inj (hgn.symm.trans hg)
 obtain rfl:=Option.some.inj (htn.symm.trans ht)
 obtain⟨u,v,hc⟩:=ifc_cells hd
 obtain⟨t2,fr,hh⟩:=var_heap hgn hv
 have h0:=cell_of_row W g 0 _ _ _ hh
 rw[←Array.getElem?_toList,hc] at h0
 exact⟨_,h0,.inr ⟨u,v,rfl⟩⟩
theorem begin12:((((begin Tryz.prog (fun _ _=>0) default).world.heap[12]?).bind Obj.row?).isSome)=true:=by kernel_rfl
theorem ground_of {W:World} (h:laidMetH Tryz.prog laidL W) (hsh:W.ShapedOpen Tryz.prog):Gc W:=by
 have hl:=(laidMetH_iff.1 h).1
 have hm:∀n d,(n,d)∈plainL→Lib.VarReads Tryz.prog W n d:=fun n d hx=>Lib.laidMet.reads hl hx
 obtain⟨m,hmx⟩:=Go.Proofs.cell_of_shapedOpen_int (zero:= #[.int .i64 0]) (t:=3) hsh (of_decide_eq_true (by kernel_rfl)) (by kernel_rfl) rfl (by kernel_rfl) (by kernel_rfl) Tryz.underlying3
 have hm':W.cell? ⟨2,0,none⟩=some (.int .i64 m):=hmx
 have hsz:13≤W.heap.size:=by
  obtain⟨x,hx⟩:=Option.isSome_iff_exists.1 begin12
  obtain⟨cs,hh,_⟩:=hsh.1 12 x.1 x.2 (of_decide_eq_true (by kernel_rfl)) hx
  exact(Array.getElem?_eq_some_iff.1 hh).1
 have mem:∀x∈laidL,x.2.handleName?.isNone=true→x∈plainL:=fun x hx hn=>List.mem_filter.2 ⟨hx,hn⟩
 have m1:("internal/strconv.uint64pow10",Rows.laid_internal_strconv_uint64pow10)∈laidL:=by unfold laidL Rows.codeSpoiltRow;simp
 have m2:("strings.asciiSpace",Rows.laid_strings_asciiSpace)∈laidL:=by unfold laidL Rows.codeSpoiltRow;simp
 have m3:("strconv.ErrSyntax",Rows.laid_strconv_ErrSyntax)∈laidL:=by unfold laidL Rows.codeSpoiltRow;simp
 have m4:("strconv.ErrRange",Rows.laid_strconv_ErrRange)∈laidL:=by unfold laidL Rows.codeSpoiltRow;simp
 have r1:=hm _ _ (mem _ m1 (by kernel_rfl))
 have r2:=hm _ _ (mem _ m2 (by kernel_rfl))
 have r3:=hm _ _ (mem _ m3 (by kernel_rfl))
 have r4:=hm _ _ (mem _ m4 (by kernel_rfl))
 unfold Rows.laid_strconv_ErrSyntax at r3
 unfold Rows.laid_strconv_ErrRange at r4
 exact⟨hsz,pow_of r1,⟨m,hm'⟩,ifc_of gSyn tSyn r3,ifc_of gRng tRng r4,space_of r2⟩
end Go.Proofs.YtagnicbknbmccaaGreatDoor
