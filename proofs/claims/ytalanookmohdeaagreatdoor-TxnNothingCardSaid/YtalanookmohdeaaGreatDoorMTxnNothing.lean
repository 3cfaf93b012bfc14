/- TxnNothing. No condition. -/
import Derived.Test.YtalanookmohdeaaGreatDoorCards
import Derived.Test.YtalanookmohdeaaGreatDoorTie
import Derived.WalkKit
import Derived.ProofKit
import Derived.OpenShut
import Derived.Deep.DeepHandedRow
import Derived.Lib.LaidTab
import Derived.LaidHandle
import Derived.Shelf.Vars
import Derived.ChangeMaps5
import Derived.Test.YtalanookmohdeaaGreatDoorM27
import Derived.Test.YtalanookmohdeaaGreatDoorM25
namespace Go.Proofs.YtalanookmohdeaaGreatDoor
open Go Go.ChangeShapes Go.WideShapes Go.ChangeAt Go.RowKit Go.ChangeMaps
set_option maxRecDepth 100000 in
theorem NB (os:Os) (started:os.Started) (H:Type) (enc:TypeId×Value→H) (F:Stop.Interp):
  ReturnsInHanded {} Tryz.checked os 3 .any ((OpenSpec.ofChange Rows.txnNothingSpec).preRow enc Tryz.prog Tryz.f3 Rows.txnNothingRow.domain false Rows.txnNothingRow.laid) (((OpenSpec.ofChange Rows.txnNothingSpec).at F).post enc Tryz.prog Tryz.f3 false true false false):=by
 obtain⟨d,places,hx⟩:=Pc os enc
 refine returnsInHanded_of_row (C:=Tryz.checked) (s:=OpenSpec.ofChange Rows.txnNothingSpec) Uy started (by kernel_rfl) Tryz.func3
  (witness_row_at (enc:=enc) (C:=Tryz.checked) false (rp os) #[Fi] rfl (by kernel_rfl) (by kernel_rfl) (by kernel_rfl)
   (OpenSpec.preRow_of_cond 8 hx (by kernel_rfl) (fun k hk=>by cases hk) (by kernel_rfl) (Jm os))) ?_
 intro W base args ds gs before hval hW _ _ hk hL _ _
 exact yY H enc W base args ds gs before hval hW hk hL
theorem R5:Rows.TxnNothingSaid:=
 OpenClaim.holds_of_cond 3 Tryz.f3 rfl rfl rfl rfl rfl rfl rfl ⟨rfl,rfl,rfl,rfl,rfl⟩ rfl rfl rfl rfl rfl (by as_aux_lemma=>kernel_rfl) Tryz.func3 Lc
  (of_decide_eq_true (by kernel_rfl)) (by unfold Func.isWrapper;first|(rw [if_pos (by decide +kernel)];kernel_rfl)|(rw [if_neg (by decide +kernel)];exact⟨rfl,rfl⟩))
  (fun os started H enc _ F=>by rw [OpenClaim.pre_eq_preRow];exact NB os started H enc F)
theorem OI (f:FuncId) (fn:Func) (hf:Tryz.pinned.checked.prog.funcNamed "rowlock/rowlocklaw17.TxnNothing" =some f) (hfn:Tryz.pinned.checked.prog.funcs[f]? =some fn):
  true=Tryz.pinned.checked.prog.looks []∧∀(j:Nat) t,fn.params[j]? =some t→Tryz.pinned.checked.prog.wantsStandIn t=false:=by
 obtain rfl:f=3:=Option.some.inj ((show Tryz.prog.funcNamed "rowlock/rowlocklaw17.TxnNothing" =some 3 by kernel_rfl).symm.trans hf) |>.symm
 obtain rfl:fn=Tryz.f3:=(Option.some.inj (Tryz.func3.symm.trans hfn)).symm
 refine⟨by kernel_rfl,fun j t ht=> ?_⟩
 rw [Tryz.params3] at ht
 obtain rfl:t=27:=by simpa using Array.mem_of_getElem? ht
 exact(show Tryz.prog.wantsStandIn 27=false by kernel_rfl)
theorem txnNothing:Rows.TxnNothingCardSaid:=
 Claim7.holds_tied_plain_at .later [] _ _ _ _ R5 (fun _ h=>by cases h) (by kernel_rfl) (fun _ h=>by cases h) txnNothing_row_tie rfl ⟨rfl,rfl⟩ (by kernel_rfl) rfl OI (by kernel_rfl)
#print axioms txnNothing
end Go.Proofs.YtalanookmohdeaaGreatDoor
