/- The variable errors.errorType holds what errors.As asks of it. -/
import Derived.ChangeMaps5
import Derived.Test.YtagnicbknbmccaaGreatDoorMGr6
import Derived.Test.YtagnicbknbmccaaGreatDoorAsC
namespace Go.Proofs.YtagnicbknbmccaaGreatDoor
open Go.RowKit Go.ChangeShapes Go.WideShapes Go.ChangeAt
theorem gErr:Tryz.prog.globalNamed "errors.errorType"=some 0:=by kernel_rfl
theorem err_only:((List.range Tryz.prog.types.size).all fun ty=> !(Tryz.prog.rowNamed ty [101,114,114,111,114])||ty==38)=true:=by kernel_rfl
theorem err_name:(Rows.laid_errors_errorType:DataW Unit).handleName? =some [101,114,114,111,114]:=by kernel_rfl
theorem err_funcs:(Rows.laid_errors_errorType:DataW Unit).funcsIn? =none:=by kernel_rfl
theorem rtype_cut:(Tryz.prog.cutTypes.find? (·.1== "internal/reflectlite.rtype")).map (·.2)=some 198:=by kernel_rfl
theorem err_handle:typeHandle Tryz.prog 38= .pointer (some ⟨13,38,none⟩):=by kernel_rfl
theorem ge_of {W:World} (h:laidMetH Tryz.prog laidL W):Ge W:=by
 have hh:=(laidMetH_iff.1 h).2
 have hm:("errors.errorType",Rows.laid_errors_errorType)∈laidL.filter fun x=>x.2.handleName?.isSome:=List.mem_filter.2 ⟨by unfold laidL Rows.codeSpoiltRow;simp,by kernel_rfl⟩
 have h1:=hh _ hm
 dsimp only at h1
 rw[err_funcs] at h1
 obtain⟨name,u,ty,e1,e2,e3,e4,e5⟩:=h1
 obtain rfl:=Option.some.inj (err_name.symm.trans e1)
 obtain rfl:=Option.some.inj (rtype_cut.symm.trans e2)
 have h2:=List.all_eq_true.1 err_only ty (List.mem_range.2 e3)
 rw[e4] at h2
 obtain rfl:ty=38:=by simpa using h2
 rw[err_handle] at e5
 obtain⟨t,fr,hr⟩:=var_heap gErr e5
 exact cell_of_row W _ 0 _ _ _ hr
end Go.Proofs.YtagnicbknbmccaaGreatDoor
