/- TxnNothing: the walk. No condition. -/
import Derived.Test.YtalanookmohdeaaGreatDoorCards
import Derived.Test.YtalanookmohdeaaGreatDoorTie
import Derived.WalkKit
import Derived.ProofKit
import Derived.OpenShut
import Derived.Deep.DeepHandedRow
import Derived.Lib.LaidTab
import Derived.LaidHandle
import Derived.Shelf.Vars
import Derived.ChangeMaps5
import Derived.Test.YtalanookmohdeaaGreatDoorM24
namespace Go.Proofs.YtalanookmohdeaaGreatDoor
open Go Go.ChangeShapes Go.WideShapes Go.ChangeAt Go.RowKit Go.ChangeMaps
open Go.Sx (aC aZ lit sJ kr ql)
theorem Uy:ownKnob Tryz.prog.godebug=none:=by kernel_rfl
theorem Ic:laidOutB Tryz.prog=true:=by kernel_rfl
theorem Uc:Tryz.prog.globalNamed "errors.errorType" =some 0:=by kernel_rfl
theorem UG:(Tryz.prog.cutTypes.find? (·.1== "internal/reflectlite.rtype")).map (·.2)=some 288:=by kernel_rfl
theorem NR:Tryz.prog.types.size=425:=by kernel_rfl
theorem N8:((List.range 425).filter fun t=>Tryz.prog.rowNamed t [101,114,114,111,114])= [40]:=by kernel_rfl
abbrev x5:List (String×DataW Unit):=Rows.txnNothingRow.laid
theorem DS {W:World} (h:laidMetH Tryz.prog x5 W):handlesMet Tryz.prog [("errors.errorType",Rows.laid_errors_errorType)] W:=h.2
theorem GG {W:World} (h:laidMetH Tryz.prog x5 W):nY W:=by
 obtain⟨name,u,ty,e1,e2,e3,e4,e5⟩:=DS h _ (List.mem_singleton.2 rfl)
 have en:name= [101,114,114,111,114]:=(Option.some.inj e1).symm
 subst en
 obtain rfl:=Option.some.inj (UG.symm.trans e2)
 have hm:ty∈(List.range 425).filter fun t=>Tryz.prog.rowNamed t [101,114,114,111,114]:=List.mem_filter.2 ⟨List.mem_range.2 (by rw [←NR];exact e3),e4⟩
 rw [N8] at hm
 obtain rfl:=List.mem_singleton.1 hm
 have hh:typeHandle Tryz.prog 40= .pointer (some ⟨1,40,none⟩):=by kernel_rfl
 rw [hh] at e5
 have:=World.var?_cell Uc e5 0
 unfold nY
 simpa using this
theorem sV {W:World}{x y u v:Value}{a b c d e g:Int} (h:sw W a b c d e g x y) (hu:∀r,Sx.Rel r x u) (hv:∀r,Sx.Rel r y v):
  Calls Tryz.prog 3 #[.agg #[.int .i64 a,.int .i64 b,.int .i64 c,.int .i64 d,.int .i64 e,.int .i64 g,u,v]] W fun e W'=>e= .returned (.bool true)∧Sx.Old W W':=by
 obtain⟨c1,h1,hd,h0⟩:=h
 refine Calls.mono (ql hd h0 (us:= #[.agg #[.int .i64 a,.int .i64 b,.int .i64 c,.int .i64 d,.int .i64 e,.int .i64 g,u,v]]) ?_) fun e W' ⟨r',u,he,hr,old⟩=> ?_
 · exact .cons (Sx.aw.kL (.cons (.int _ _) (.cons (.int _ _) (.cons (.int _ _) (.cons (.int _ _) (.cons (.int _ _) (.cons (.int _ _) (.cons (hu _) (.cons (hv _) .nil))))))))) .nil
 · cases hr;exact⟨he,old⟩
set_option maxRecDepth 100000 in
theorem yY (H:Type) (enc:TypeId×Value→H) (W:World) (base:Nat) (args:Array Value) (ds gs:List (DataW H)) (before:List MemPlace)
  (hval:∀(j:Nat) t v,Tryz.f3.params[j]? =some t→args[j]? =some v→Value.okWide Tryz.prog W .any base t v)
  (hW:DataW.Whole enc Tryz.prog Tryz.f3.params.toList Rows.txnNothingSpec.vars false W args.toList ds gs before)
  (hk:(DataW.weightsEach Tryz.prog (Tryz.f3.params.toList++(OpenSpec.ofChange Rows.txnNothingSpec).bare.plain.varTypes Tryz.prog) (ds++gs)).all (· ≤reachBytes)=true) (hL:laidMetH Tryz.prog x5 W):
  Calls Tryz.prog 3 args W fun e W'=>∃v,e= .returned v∧Rows.txnNothingSpec.post enc Tryz.prog Tryz.f3 false true false false W args v W':=by
 have hW':=hW
 obtain⟨p,q,hA0,hV,rfl,hfz,hnd⟩:=hW
 have hA:DataW.TrodAll enc Tryz.prog W 0 (fun _=>true) true Tryz.f3.params.toList args.toList ds p:=hA0
 rw [Tryz.params3] at hA hval
 obtain⟨v0,vs0,d0,ds0,p0,q0,hargs,rfl,rfl,h0,r0⟩:=trodAll_cons hA
 obtain⟨rfl,rfl,rfl⟩:=trodAll_nil r0
 obtain rfl:args= #[v0]:=by cases args;simp_all
 obtain⟨rfl,rfl⟩:=trodVars_none hV
 have hB:∀k∈d0.weights Tryz.prog 27,k≤reachBytes:=fun k hm=>by
  have h:=List.all_eq_true.1 hk k (DataW.weights_mem_each (P:=Tryz.prog) (j:=0) (t:=27) rfl rfl k hm)
  simpa using h
 have lt0:∀x∈p0,x.block < W.heap.size:=by obtain⟨m,hm⟩:=h0;exact DataW.trod_lt m _ _ _ hm
 have k0:=h0
 obtain⟨a,b,c,d,e,g,x,y,rfl,hx,hy⟩:=F7 (hval 0 27 v0 rfl rfl) h0 hB
 clear hA0
 have hg:=GG hL
 have run:Calls Tryz.prog 3 #[.agg #[.int .i64 a,.int .i64 b,.int .i64 c,.int .i64 d,.int .i64 e,.int .i64 g,x,y]] W fun e W'=>e= .returned (.bool true)∧Sx.Old W W':=by
  obtain⟨u,htp,htu,hyr⟩:∃u:Tu,(u.tp=none→u.tn=0)∧(∀x,u.tp=some x→∀i,i < u.tn→∃v:Nat,v < 256∧aZ W.heap.size W x.1 (x.2+i*1) [.int .u8 (v:Nat)])∧∀r,Sx.Rel r (fx u) y:=by
   rcases hy with rfl|⟨⟨b1,o1,s1⟩,M1,c1,rfl,hs1,hc1,ht1⟩
   · exact⟨⟨none,0,0⟩,fun _=>rfl,fun _ h=>(by cases h),fun _=> .sliceNil⟩
   · exact⟨⟨some (b1,o1),M1,c1⟩,fun h=>(by cases h),fun x h=>(by cases h;exact ht1),fun _=> .litSlice hc1 hs1⟩
  rcases hx with rfl|⟨⟨b2,o2,s2⟩,M2,c2,rfl,hs2,hc2,hM,hL⟩
  · obtain⟨pt,Tn,ct,he⟩:∃pt Tn ct,fx u= .slice pt Tn ct:=by
     obtain⟨tp,tn,tc⟩:=u
     cases tp with
     |none=>exact⟨none,0,0,rfl⟩
     |some x=>exact⟨_,tn,tc,rfl⟩
    rw [he] at hyr
    exact sV (Jg a b c d e g) (fun _=> .sliceNil) hyr
  · obtain⟨f,hf⟩:=G6 (α:=Value×Nat) (P:=fun j x=>Ew W b2 o2 j x) (M:=M2) hL
    exact sV (FZ a b c d e g (sv:=fun j=>(f j).1) (Nv:=fun j=>(f j).2) hM ⟨fun j hj=>(hf j hj).2.1,fun j hj=>(hf j hj).2.2,fun j hj=>(hf j hj).1⟩ hg htp htu) (fun _=> .litSlice hc2 hs2) hyr
 refine run.mono fun e W' ⟨he,old⟩=> ?_
 subst he
 have bel:=Old.below old
 exact⟨_,rfl,_,_,_,[],_,[],hW',trodAll_mk1 (shut_bool Tryz.underlying4 _),(trodAll_cons_mk (Below.trod Ic (by kernel_rfl) (of_decide_eq_true (by kernel_rfl)) k0 bel lt0) trodAll_mk0),rfl,bel.frame _,fun h=>by cases h⟩
def Ul (i:Nat) (vs:Array Value) (h:Array Obj):Array Obj:=h.modify i fun
 | .cells _ t frozen=> .cells vs t frozen
 |o=>o
abbrev Fi:Value:= .agg #[.int .i64 0,.int .i64 0,.int .i64 0,.int .i64 0,.int .i64 0,.int .i64 0,.slice none 0 0,.slice none 0 0]
noncomputable def rp (os:Os):World:=
 { World.holding Tryz.prog os ⟨#[], #[],[]⟩ with heap:=Ul 0 #[.iface 288 (.agg #[.pointer (some ⟨1,40,none⟩)])] (World.holding Tryz.prog os ⟨#[], #[],[]⟩).heap}
theorem Jm (os:Os):laidMetH Tryz.prog x5 ((rp os).forCall (fun _ _=>0) ⟨#[], #[Fi],[]⟩).memory:=
 laidMetH_of_parts (laidMet_of_run' 8 (by kernel_rfl) (by kernel_rfl)) (by kernel_rfl)
theorem Pc (os:Os) {H:Type} (enc:TypeId×Value→H):∃d places,DataW.whole enc Tryz.prog ((rp os).forCall (fun _ _=>0) ⟨#[], #[Fi],[]⟩).memory Tryz.f3.params.toList Rows.txnNothingSpec.vars false #[Fi].toList 8=some ([d],[],places):=
 ⟨.agg [.agg [.lit (.int .i64 0),.lit (.int .i64 0),.lit (.int .i64 0),.lit (.int .i64 0),.lit (.int .i64 0),.lit (.int .i64 0)],.nil,.nil],[],by kernel_rfl⟩
end Go.Proofs.YtalanookmohdeaaGreatDoor
