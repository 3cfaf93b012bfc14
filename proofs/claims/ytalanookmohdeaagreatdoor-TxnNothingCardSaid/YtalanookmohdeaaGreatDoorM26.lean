/- TxnNothing: the walk. No condition. -/
import Derived.Test.YtalanookmohdeaaGreatDoorRows
import Derived.JoinedCond
import Derived.KernelRfl
namespace Go.Proofs.YtalanookmohdeaaGreatDoor
open Go
noncomputable def dk:ChangeSpec:=(OpenSpec.ofChange Rows.txnNothingSpec).bare
theorem dE {a b:Bool} (ha:a=true) (hb:b=true):(a && b)=true:=by rw [ha,hb];rfl
theorem Ug:(fun(P:Program) (f:FuncId) (fn:Func) (s:ChangeSpec) (c:OpenClaim)=>c.wf (OpenSpec.ofChange s)) Tryz.pinned.checked.prog 3 Tryz.f3 dk Rows.txnNothingRow=true:=by kernel_rfl
theorem Ut:(fun(P:Program) (f:FuncId) (fn:Func) (s:ChangeSpec) (c:OpenClaim)=>laidOutB P) Tryz.pinned.checked.prog 3 Tryz.f3 dk Rows.txnNothingRow=true:=by kernel_rfl
theorem Uj:(fun(P:Program) (f:FuncId) (fn:Func) (s:ChangeSpec) (c:OpenClaim)=>mapsRowed P) Tryz.pinned.checked.prog 3 Tryz.f3 dk Rows.txnNothingRow=true:=by kernel_rfl
theorem Uk:(fun(P:Program) (f:FuncId) (fn:Func) (s:ChangeSpec) (c:OpenClaim)=>fn.params.all (P.readableRec ·)) Tryz.pinned.checked.prog 3 Tryz.f3 dk Rows.txnNothingRow=true:=by kernel_rfl
theorem TY:(fun(P:Program) (f:FuncId) (fn:Func) (s:ChangeSpec) (c:OpenClaim)=>namedTie P c.named s.vars) Tryz.pinned.checked.prog 3 Tryz.f3 dk Rows.txnNothingRow=true:=by kernel_rfl
theorem Ur:(fun(P:Program) (f:FuncId) (fn:Func) (s:ChangeSpec) (c:OpenClaim)=>(c.stops== [])) Tryz.pinned.checked.prog 3 Tryz.f3 dk Rows.txnNothingRow=true:=by kernel_rfl
theorem UB:(fun(P:Program) (f:FuncId) (fn:Func) (s:ChangeSpec) (c:OpenClaim)=>(P.stops== [])) Tryz.pinned.checked.prog 3 Tryz.f3 dk Rows.txnNothingRow=true:=by kernel_rfl
theorem Un:(fun(P:Program) (f:FuncId) (fn:Func) (s:ChangeSpec) (c:OpenClaim)=>(c.knobs== [])) Tryz.pinned.checked.prog 3 Tryz.f3 dk Rows.txnNothingRow=true:=by kernel_rfl
theorem T8:(fun(P:Program) (f:FuncId) (fn:Func) (s:ChangeSpec) (c:OpenClaim)=>(P.stopKnobs== [])) Tryz.pinned.checked.prog 3 Tryz.f3 dk Rows.txnNothingRow=true:=by kernel_rfl
theorem TQ:(fun(P:Program) (f:FuncId) (fn:Func) (s:ChangeSpec) (c:OpenClaim)=>(c.inPlace==P.inPlace f)) Tryz.pinned.checked.prog 3 Tryz.f3 dk Rows.txnNothingRow=true:=by kernel_rfl
theorem Tq:(fun(P:Program) (f:FuncId) (fn:Func) (s:ChangeSpec) (c:OpenClaim)=>(c.unfollowed==P.unfollowed f)) Tryz.pinned.checked.prog 3 Tryz.f3 dk Rows.txnNothingRow=true:=by kernel_rfl
theorem R8:(fun(P:Program) (f:FuncId) (fn:Func) (s:ChangeSpec) (c:OpenClaim)=>(c.recurses==P.recurses f)) Tryz.pinned.checked.prog 3 Tryz.f3 dk Rows.txnNothingRow=true:=by kernel_rfl
theorem Rz:(fun(P:Program) (f:FuncId) (fn:Func) (s:ChangeSpec) (c:OpenClaim)=>(c.named==P.varsNamed f)) Tryz.pinned.checked.prog 3 Tryz.f3 dk Rows.txnNothingRow=true:=by kernel_rfl
theorem Rp:(fun(P:Program) (f:FuncId) (fn:Func) (s:ChangeSpec) (c:OpenClaim)=>(c.maps==(fn.params.toList++s.plain.varTypes P).any (P.mapsRec ·))) Tryz.pinned.checked.prog 3 Tryz.f3 dk Rows.txnNothingRow=true:=by kernel_rfl
theorem Sw:(fun(P:Program) (f:FuncId) (fn:Func) (s:ChangeSpec) (c:OpenClaim)=>(c.ifaces==(fn.params.toList++s.plain.varTypes P).any (P.ifacesRec ·))) Tryz.pinned.checked.prog 3 Tryz.f3 dk Rows.txnNothingRow=true:=by kernel_rfl
theorem QL:(fun(P:Program) (f:FuncId) (fn:Func) (s:ChangeSpec) (c:OpenClaim)=>(c.mapsOut==P.mapsAmong fn.resultTypes.toList)) Tryz.pinned.checked.prog 3 Tryz.f3 dk Rows.txnNothingRow=true:=by kernel_rfl
theorem RN:(fun(P:Program) (f:FuncId) (fn:Func) (s:ChangeSpec) (c:OpenClaim)=>(c.loops==(fn.params.toList++s.plain.varTypes P).any (P.loopsFrom ·))) Tryz.pinned.checked.prog 3 Tryz.f3 dk Rows.txnNothingRow=true:=by kernel_rfl
theorem QH:(fun(P:Program) (f:FuncId) (fn:Func) (s:ChangeSpec) (c:OpenClaim)=>(c.wideKeys==(fn.params.toList++s.plain.varTypes P++fn.resultTypes.toList).any (P.wideKeysFrom ·))) Tryz.pinned.checked.prog 3 Tryz.f3 dk Rows.txnNothingRow=true:=by kernel_rfl
theorem SQ:(fun(P:Program) (f:FuncId) (fn:Func) (s:ChangeSpec) (c:OpenClaim)=>s.vars.all (P.varReadable ·)) Tryz.pinned.checked.prog 3 Tryz.f3 dk Rows.txnNothingRow=true:=by kernel_rfl
theorem Sn:(fun(P:Program) (f:FuncId) (fn:Func) (s:ChangeSpec) (c:OpenClaim)=>fn.resultTypes.all (fun t=>P.readableRec t && decide (t < P.types.size))) Tryz.pinned.checked.prog 3 Tryz.f3 dk Rows.txnNothingRow=true:=by kernel_rfl
theorem Rl:(fun(P:Program) (f:FuncId) (fn:Func) (s:ChangeSpec) (c:OpenClaim)=>(c.ifacesOut==fn.resultTypes.toList.any (P.ifacesRec ·))) Tryz.pinned.checked.prog 3 Tryz.f3 dk Rows.txnNothingRow=true:=by kernel_rfl
theorem SK:(fun(P:Program) (f:FuncId) (fn:Func) (s:ChangeSpec) (c:OpenClaim)=>(c.loopsOut==fn.resultTypes.toList.any (P.loopsFrom ·))) Tryz.pinned.checked.prog 3 Tryz.f3 dk Rows.txnNothingRow=true:=by kernel_rfl
theorem Q7:(fun(P:Program) (f:FuncId) (fn:Func) (s:ChangeSpec) (c:OpenClaim)=>(c.plainKeys==P.plainKeys)) Tryz.pinned.checked.prog 3 Tryz.f3 dk Rows.txnNothingRow=true:=by kernel_rfl
theorem Tc:(fun(P:Program) (f:FuncId) (fn:Func) (s:ChangeSpec) (c:OpenClaim)=>c.shortTexts.isNone) Tryz.pinned.checked.prog 3 Tryz.f3 dk Rows.txnNothingRow=true:=by kernel_rfl
theorem Rb:(fun(P:Program) (f:FuncId) (fn:Func) (s:ChangeSpec) (c:OpenClaim)=>P.stopsHeard) Tryz.pinned.checked.prog 3 Tryz.f3 dk Rows.txnNothingRow=true:=by kernel_rfl
theorem SF:(fun(P:Program) (f:FuncId) (fn:Func) (s:ChangeSpec) (c:OpenClaim)=>P.mayEnter) Tryz.pinned.checked.prog 3 Tryz.f3 dk Rows.txnNothingRow=true:=by kernel_rfl
theorem QE:(fun(P:Program) (f:FuncId) (fn:Func) (s:ChangeSpec) (c:OpenClaim)=>(c.lifted==P.liftsFinal)) Tryz.pinned.checked.prog 3 Tryz.f3 dk Rows.txnNothingRow=true:=by kernel_rfl
theorem So:(fun(P:Program) (f:FuncId) (fn:Func) (s:ChangeSpec) (c:OpenClaim)=>(P.make==some c.make)) Tryz.pinned.checked.prog 3 Tryz.f3 dk Rows.txnNothingRow=true:=by kernel_rfl
theorem SH:(fun(P:Program) (f:FuncId) (fn:Func) (s:ChangeSpec) (c:OpenClaim)=>(c.kinds==(if c.domain.isEmpty then [] else fn.params.toList.map fun t=>match P.underlying t with|some (.int k)=>some k|_=>none))) Tryz.pinned.checked.prog 3 Tryz.f3 dk Rows.txnNothingRow=true:=by kernel_rfl
theorem Sg:(fun(P:Program) (f:FuncId) (fn:Func) (s:ChangeSpec) (c:OpenClaim)=>(c.pinned==c.pinnedBy)) Tryz.pinned.checked.prog 3 Tryz.f3 dk Rows.txnNothingRow=true:=by kernel_rfl
theorem QT:(fun(P:Program) (f:FuncId) (fn:Func) (s:ChangeSpec) (c:OpenClaim)=>(c.veiled==(fn.params.toList++s.plain.varTypes P++fn.resultTypes.toList).any (P.veiledRec ·))) Tryz.pinned.checked.prog 3 Tryz.f3 dk Rows.txnNothingRow=true:=by kernel_rfl
theorem Q9:(fun(P:Program) (f:FuncId) (fn:Func) (s:ChangeSpec) (c:OpenClaim)=>c.veiledFits P fn.params.toList (fn.params.toList++s.plain.varTypes P++fn.resultTypes.toList)) Tryz.pinned.checked.prog 3 Tryz.f3 dk Rows.txnNothingRow=true:=by kernel_rfl
end Go.Proofs.YtalanookmohdeaaGreatDoor
