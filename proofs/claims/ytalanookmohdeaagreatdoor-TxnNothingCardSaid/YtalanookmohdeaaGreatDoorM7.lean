/- TxnNothing: the walk. No condition. -/
import Derived.Test.YtalanookmohdeaaGreatDoorM6
namespace Go.Proofs.YtalanookmohdeaaGreatDoor
open Go.Sx
abbrev wF (rs:List Rt):List Value:=aa (List.take (rs.length*2 / 2) (List.drop 0 rs))
abbrev FP (rs:List Rt) (p:Nat):Nat×eA:=(7,.cell (.tuple ⟨[Value.string (rat rs ((0+p*2+0) / 2)).fst]⟩))
abbrev zr (rs:List Rt) (p:Nat):List Value:=aa (List.take (p*2 / 2) (List.drop 0 rs))
abbrev CT (rs:List Rt) (p:Nat):Nat×eA:=(0,.loop [] [0] 1 (db rs) .normal [iI p])
abbrev K6:=fun(rs:List Rt) (key:ByteArray) h0 h1=>ab Tryz.prog 1 (db rs) 4 h0 (.call 94 [sL 0 rs.length,.string key]) (.val (.tuple ⟨h1⟩))
section
set_option maxRecDepth 100000
set_option linter.unusedSectionVars false
variable {rs ws X a b:List Rt}{key:ByteArray}{p n o sz:Nat}
variable (k0:(decide ((p:Int) < (rs.length:Int)))=true)(k1:(decide (0≤(p:Int)∧(p:Int) < (rs.length:Int)))=true)(k2:(!cH (rat rs ((0+p*2+0) / 2)).fst key)=true)(k3:(!cH (rat rs ((0+p*2+0) / 2)).fst key)=false)(k4:(decide ((0:Int)≤0∧0≤(p:Int)∧(p:Int)≤(rs.length:Int)∧(p:Int)=(p:Int)))=true)(k5:(decide ((0:Int)≤IntKind.i64.wrap ((p:Int)+1)∧IntKind.i64.wrap ((p:Int)+1)≤(rs.length:Int)∧(rs.length:Int)≤(rs.length:Int)∧(rs.length:Int)=(rs.length:Int)))=true)(k6:(decide (IntKind.i64.wrap ((p:Int)+1)=0))=false)(k7:(p.beq 0)=true)(k8:(p.beq 0)=false)(k9:(bz p 32)=true)(k10:(((rs.length:Int) - IntKind.i64.wrap ((p:Int)+1)).toNat.beq 0)=false)(k11:(bz ((rs.length:Int) - IntKind.i64.wrap ((p:Int)+1)).toNat 32)=true)(k12:(((rs.length:Int) - IntKind.i64.wrap ((p:Int)+1)).toNat.beq 0)=true)(k13:(bz (p+((rs.length:Int) - IntKind.i64.wrap ((p:Int)+1)).toNat) 32)=true)(k14:(decide ((p:Int) < (rs.length:Int)))=false)(k15:(rs.length.beq 0)=false)(k16:(bz rs.length 32)=true)(k17:List.take 1 (List.drop (0+p*2+0) (aa rs))= [Value.string (rat rs ((0+p*2+0) / 2)).fst]∧ [Value.string (rat rs ((0+p*2+0) / 2)).fst].length=1)(k18:List.take (p*2) (List.drop 0 (aa rs))=aa (List.take (p*2 / 2) (List.drop 0 rs))∧(zr rs p).length=p*2)(k19:List.take (((rs.length:Int) - IntKind.i64.wrap ((p:Int)+1)).toNat*2) (List.drop (0+(IntKind.i64.wrap ((p:Int)+1)).toNat*2) (aa rs))=aa (List.take (((rs.length:Int) - IntKind.i64.wrap ((p:Int)+1)).toNat*2 / 2) (List.drop ((0+(IntKind.i64.wrap ((p:Int)+1)).toNat*2) / 2) rs))∧(aa (List.take (((rs.length:Int) - IntKind.i64.wrap ((p:Int)+1)).toNat*2 / 2) (List.drop ((0+(IntKind.i64.wrap ((p:Int)+1)).toNat*2) / 2) rs))).length=((rs.length:Int) - IntKind.i64.wrap ((p:Int)+1)).toNat*2)(k20:List.take (p*2) (List.drop 0 (zr rs p))=aa (List.take (p*2 / 2) (List.drop 0 rs))∧(zr rs p).length=p*2)(k21:(zr rs p).all ed=true)(k22:(aa (List.take (((rs.length:Int) - IntKind.i64.wrap ((p:Int)+1)).toNat*2 / 2) (List.drop ((0+(IntKind.i64.wrap ((p:Int)+1)).toNat*2) / 2) rs))).all ed=true)(k23:List.take (rs.length*2) (List.drop 0 (aa rs))=aa (List.take (rs.length*2 / 2) (List.drop 0 rs))∧(wF rs).length=rs.length*2)(k24:(wF rs).all ed=true)(k25:ab Tryz.prog 1 (db rs) 1 (db rs) (.call 120 [sL 0 rs.length,.string key]) (.val (iI p)))(k26:n=0)(k27:n≠0)(k28:n≤1000000)(k29:o % 2=0)(k30:sz % 2=0)(k31:o / 2+sz / 2≤ws.length)(k32:(aa X).length=sz)(k33:o / 2 < ws.length)(k34:dC a)(k35:dC b)
theorem aI:∀(a b:List Rt),aa (a++b)=aa a++aa b
 | [],_=>rfl
 |x::a,b=>by simp only [List.cons_append,aa,aI a b]
theorem bV:∀a:List Rt,(aa a).all ed=true
 | []=>rfl
 |_::a=>by simp only [aa,List.all_cons,bV a];rfl
theorem dK {l:List Value}{nm:Nat→Option Nat} (h:∃ws,l=aa ws:=by first|exact⟨_,rfl⟩|exact⟨_,(aI _ _).symm⟩):aj l (l.map (ao nm 9)):=by
 obtain⟨ws,rfl⟩:=h
 exact aV
include k0 k1 k2 k15 k16 k17 k23 k24 k25 in
theorem Qg:K6 rs key [(1,.cells (wF rs) 64)] [sL 1 (rs.length),.bool false,]:=
 bZ mixed ae [(1,2),(2,1)] [(2,true)] (d:=aT [1000120,1,2,3,4,5,6,8,9,10,11,19] (aF [16] [(18,.cell .nilFunc),(CT rs p),(FP rs p),(17,.cell (.tuple ⟨aa (List.take (rs.length*2 / 2) (List.drop 0 rs))⟩))])) (n:=600) (c2:=3) (L':= [.p (aj (wF rs) ((wF rs).map (ao (nameOf [(1,2),(2,1)] 1 4) 9)))]) (by kernel_rfl) rfl rfl (ag dK af) (vC k16 (vC k24 (vP k23 (vB k15 (vB k2 (aX k0 (vP k17 (cZ k0 (vC k1 (aX k0 (vP k25 vN)))))))))))
include k0 k1 k3 k4 k5 k6 k7 k12 k17 k25 in
theorem Oo:K6 rs key [] [sN,.bool true,]:=
 bZ mixed ae [] [] (d:=aT [1000120,1,2,3,4,5,6,8,9,10,12,14,19,23] (aF [11,15] [(CT rs p),(FP rs p)])) (n:=600) (c2:=2) (L':= []) (by kernel_rfl) rfl rfl (af) (vB k12 (vB k7 (vB k6 (vC k5 (vC k4 (vB k3 (aX k0 (vP k17 (cZ k0 (vC k1 (aX k0 (vP k25 vN))))))))))))
include k0 k1 k3 k4 k5 k6 k7 k10 k11 k17 k19 k22 k25 in
theorem PM:ab Tryz.prog 1 (db rs) 4 [(1,.cells (aa (List.take (((rs.length:Int) - IntKind.i64.wrap ((p:Int)+1)).toNat*2 / 2) (List.drop ((0+(IntKind.i64.wrap ((p:Int)+1)).toNat*2) / 2) rs))) 64)] (.call 94 [sL 0 rs.length,.string key]) (.val (.tuple ⟨[.slice (some ⟨1,0,none⟩) (((rs.length:Int) - IntKind.i64.wrap ((p:Int)+1)).toNat) 0,.bool true,]⟩)):=
 bZ mixed ae [(1,2),(2,1)] [(2,true)] (d:=aT [1000120,1,2,3,4,5,6,8,9,10,12,14,19,26] (aF [11,15,23] [(25,.cell .nilFunc),(CT rs p),(FP rs p),(24,.cell (.tuple ⟨aa (List.take (((rs.length:Int) - IntKind.i64.wrap ((p:Int)+1)).toNat*2 / 2) (List.drop ((0+(IntKind.i64.wrap ((p:Int)+1)).toNat*2) / 2) rs))⟩))])) (n:=600) (c2:=3) (L':= [.p (aj (aa (List.take (((rs.length:Int) - IntKind.i64.wrap ((p:Int)+1)).toNat*2 / 2) (List.drop ((0+(IntKind.i64.wrap ((p:Int)+1)).toNat*2) / 2) rs))) ((aa (List.take (((rs.length:Int) - IntKind.i64.wrap ((p:Int)+1)).toNat*2 / 2) (List.drop ((0+(IntKind.i64.wrap ((p:Int)+1)).toNat*2) / 2) rs))).map (ao (nameOf [(1,2),(2,1)] 1 4) 9)))]) (by kernel_rfl) rfl rfl (ag dK af) (vC k11 (vC k22 (vP k19 (vB k10 (vB k7 (vB k6 (vC k5 (vC k4 (vB k3 (aX k0 (vP k17 (cZ k0 (vC k1 (aX k0 (vP k25 vN)))))))))))))))
include k0 k1 k3 k4 k5 k6 k8 k9 k12 k17 k18 k21 k25 in
theorem N2:K6 rs key [(1,.cells (zr rs p) 64)] [sL 1 ((p:Int).toNat),.bool true,]:=
 bZ mixed ae [(1,2),(2,1)] [(2,true)] (d:=aT [1000120,1,2,3,4,5,6,8,9,10,12,14,22,26] (aF [11,15,19] [(21,.cell .nilFunc),(CT rs p),(FP rs p),(20,.cell (.tuple ⟨aa (List.take (p*2 / 2) (List.drop 0 rs))⟩))])) (n:=600) (c2:=3) (L':= [.p (aj (zr rs p) ((zr rs p).map (ao (nameOf [(1,2),(2,1)] 1 4) 9)))]) (by kernel_rfl) rfl rfl (ag dK af) (vB k12 (vC k9 (vC k21 (vP k18 (vB k8 (vB k6 (vC k5 (vC k4 (vB k3 (aX k0 (vP k17 (cZ k0 (vC k1 (aX k0 (vP k25 vN)))))))))))))))
include k0 k1 k3 k4 k5 k6 k8 k9 k10 k13 k17 k18 k19 k20 k21 k22 k25 in
theorem NS:ab Tryz.prog 1 (db rs) 4 [(1,.cells (aa (List.take (p*2 / 2) (List.drop 0 rs))++aa (List.take (((rs.length:Int) - IntKind.i64.wrap ((p:Int)+1)).toNat*2 / 2) (List.drop ((0+(IntKind.i64.wrap ((p:Int)+1)).toNat*2) / 2) rs))) 64)] (.call 94 [sL 0 rs.length,.string key]) (.val (.tuple ⟨[.slice (some ⟨1,0,none⟩) ((p:Int).toNat+((rs.length:Int) - IntKind.i64.wrap ((p:Int)+1)).toNat) 0,.bool true,]⟩)):=
 bZ mixed ae [(1,3),(3,1)] [(3,true)] (d:=aT [1000120,1,2,3,4,5,6,8,9,10,12,14,22,30] (aF [11,15,19,26] [(21,.cell .nilFunc),(28,.cell .nilFunc),(CT rs p),(FP rs p),(20,.cell (.tuple ⟨aa (List.take (p*2 / 2) (List.drop 0 rs))⟩)),(27,.cell (.tuple ⟨aa (List.take (((rs.length:Int) - IntKind.i64.wrap ((p:Int)+1)).toNat*2 / 2) (List.drop ((0+(IntKind.i64.wrap ((p:Int)+1)).toNat*2) / 2) rs))⟩)),(29,.cell (.tuple ⟨aa (List.take (p*2 / 2) (List.drop 0 rs))⟩))])) (n:=600) (c2:=4) (L':= [.p (aj (aa (List.take (p*2 / 2) (List.drop 0 rs))++aa (List.take (((rs.length:Int) - IntKind.i64.wrap ((p:Int)+1)).toNat*2 / 2) (List.drop ((0+(IntKind.i64.wrap ((p:Int)+1)).toNat*2) / 2) rs))) ((aa (List.take (p*2 / 2) (List.drop 0 rs))++aa (List.take (((rs.length:Int) - IntKind.i64.wrap ((p:Int)+1)).toNat*2 / 2) (List.drop ((0+(IntKind.i64.wrap ((p:Int)+1)).toNat*2) / 2) rs))).map (ao (nameOf [(1,3),(3,1)] 1 4) 9)))]) (by kernel_rfl) rfl rfl (ag dK af) (vC k13 (vP k20 (vC k22 (vP k19 (vB k10 (vC k9 (vC k21 (vP k18 (vB k8 (vB k6 (vC k5 (vC k4 (vB k3 (aX k0 (vP k17 (cZ k0 (vC k1 (aX k0 (vP k25 vN)))))))))))))))))))
include k14 k15 k16 k23 k24 k25 in
theorem Mv:K6 rs key [(1,.cells (wF rs) 64)] [sL 1 (rs.length),.bool false,]:=
 bZ mixed ae [(1,2),(2,1)] [(2,true)] (d:=aT [1000120,17] (aF [1,2,3,4,5,6,7,8,14] [(16,.cell .nilFunc),(CT rs p),(15,.cell (.tuple ⟨aa (List.take (rs.length*2 / 2) (List.drop 0 rs))⟩))])) (n:=600) (c2:=3) (L':= [.p (aj (wF rs) ((wF rs).map (ao (nameOf [(1,2),(2,1)] 1 4) 9)))]) (by kernel_rfl) rfl rfl (ag dK af) (vC k16 (vC k24 (vP k23 (vB k15 (mg k14 (vP k25 vN))))))
include k26 in
theorem EY:n.beq 0=true:=by subst k26;rfl
include k27 in
theorem pz:n.beq 0=false:=by cases n with|zero=>exact absurd rfl k27|succ _=>rfl
include k28 in
theorem dU:bz n 32=true:=Nat.ble_eq_true_of_le (by omega)
include k29 k30 k31 in
theorem dQ:((aa ws).drop o).take sz=aa ((ws.drop (o / 2)).take (sz / 2))∧(aa ((ws.drop (o / 2)).take (sz / 2))).length=sz:=
 Q6 (by omega) (by omega) k31
include k32 in
theorem ox:((aa X).drop 0).take sz=aa X∧(aa X).length=sz:=by subst k32;simp
include k29 k33 in
theorem fq:((aa ws).drop o).take 1= [.string (rat ws (o / 2)).1]∧ [Value.string (rat ws (o / 2)).1].length=1:=K9 (by omega) k33
include k29 k33 in
theorem dg:((aa ws).drop o).take 2= [.string (rat ws (o / 2)).1,.string (rat ws (o / 2)).2]∧ [Value.string (rat ws (o / 2)).1,.string (rat ws (o / 2)).2].length=2:=Re (by omega) k33
theorem bK {ws:List Rt} (h:dC ws) (n:Nat):dC (ws.take n):=fun w hw=>h w (List.mem_of_mem_take hw)
theorem bJ {ws:List Rt} (h:dC ws) (n:Nat):dC (ws.drop n):=fun w hw=>h w (List.mem_of_mem_drop hw)
include k34 k35 in
theorem bR:dC (a++b):=fun w hw=>(List.mem_append.1 hw).elim (k34 w) (k35 w)
theorem EF {ws:List Rt} (h:dC ws) (i:Nat):(rat ws i).1.data.toList.length.ble 4294967295=true:=Nat.ble_eq_true_of_le (by have:=wg h i;omega)
theorem NI {rs:List Rt}{key:ByteArray} (hs:dC rs) (hl:rs.length < 100000) (h0:rs≠ []):
  (∃t,ab Tryz.prog 1 (db rs) 4 [] (.call 94 [.slice (some ⟨0,0,none⟩) rs.length 0,.string key]) (.val (.tuple ⟨[.slice none 0 0,.bool t]⟩)))∨
  ∃(rs':List Rt) (t:Bool),rs'≠ []∧dC rs'∧rs'.length≤rs.length+1∧ab Tryz.prog 1 (db rs) 4 [(1,.cells (aa rs') 64)] (.call 94 [.slice (some ⟨0,0,none⟩) rs.length 0,.string key]) (.val (.tuple ⟨[.slice (some ⟨1,0,none⟩) rs'.length 0,.bool t]⟩)):=by
 have hpos:0 < rs.length:=List.length_pos_iff.2 h0
 obtain⟨p,hp,hd0⟩:=Dv (key:=key) hs (by omega)
 have hw:IntKind.i64.wrap ((p:Int)+1)=(p:Int)+1:=wrap64 (by omega) (by omega)
 by_cases q:p < rs.length
 · cases hse:(!cH (rat rs ((0+p*2+0) / 2)).fst key) with
   |true=>
    have:=Qg (rs:=rs) (key:=key) (p:=p) (decide_eq_true (by omega)) (decide_eq_true (by omega)) (by assumption) (pz (by omega)) (dU (by omega)) (by exact fq (by omega) (by omega)) (by exact dQ (by omega) (by omega) (by first|omega|(simp only [List.length_take,List.length_drop,List.length_append,List.length_cons,List.length_nil];omega))) (bV _) hd0
    have en:(rs.length)=((List.take (rs.length*2 / 2) (List.drop 0 rs))).length:=by simp only [List.length_take,List.length_drop,List.length_append,List.length_cons,List.length_nil];omega
    exact .inr ⟨(List.take (rs.length*2 / 2) (List.drop 0 rs)),false,(fun h=>by have:=congrArg List.length h;simp only [List.length_take,List.length_drop,List.length_append,List.length_cons,List.length_nil] at this;omega),bK (bJ hs _) _,by simp only [List.length_take,List.length_drop,List.length_append,List.length_cons,List.length_nil];omega,(by rw [←en];exact this)⟩
   |false=>
    by_cases q1:p=0
    · by_cases q2:rs.length=1
      · exact .inl ⟨true,Oo (rs:=rs) (key:=key) (p:=p) (decide_eq_true (by omega)) (decide_eq_true (by omega)) (by assumption) (decide_eq_true (by omega)) (decide_eq_true (by omega)) (decide_eq_false (by omega)) (EY (by omega)) (EY (by omega)) (by exact fq (by omega) (by omega)) hd0⟩
      · have:=PM (rs:=rs) (key:=key) (p:=p) (decide_eq_true (by omega)) (decide_eq_true (by omega)) (by assumption) (decide_eq_true (by omega)) (decide_eq_true (by omega)) (decide_eq_false (by omega)) (EY (by omega)) (pz (by omega)) (dU (by omega)) (by exact fq (by omega) (by omega)) (by exact dQ (by omega) (by omega) (by first|omega|(simp only [List.length_take,List.length_drop,List.length_append,List.length_cons,List.length_nil];omega))) (bV _) hd0
        have en:(((rs.length:Int) - IntKind.i64.wrap ((p:Int)+1)).toNat)=((List.take (((rs.length:Int) - IntKind.i64.wrap ((p:Int)+1)).toNat*2 / 2) (List.drop ((0+(IntKind.i64.wrap ((p:Int)+1)).toNat*2) / 2) rs))).length:=by simp only [List.length_take,List.length_drop,List.length_append,List.length_cons,List.length_nil];omega
        exact .inr ⟨(List.take (((rs.length:Int) - IntKind.i64.wrap ((p:Int)+1)).toNat*2 / 2) (List.drop ((0+(IntKind.i64.wrap ((p:Int)+1)).toNat*2) / 2) rs)),true,(fun h=>by have:=congrArg List.length h;simp only [List.length_take,List.length_drop,List.length_append,List.length_cons,List.length_nil] at this;omega),bK (bJ hs _) _,by simp only [List.length_take,List.length_drop,List.length_append,List.length_cons,List.length_nil];omega,(by rw [←en];exact this)⟩
    · by_cases q2:rs.length=p+1
      · have:=N2 (rs:=rs) (key:=key) (p:=p) (decide_eq_true (by omega)) (decide_eq_true (by omega)) (by assumption) (decide_eq_true (by omega)) (decide_eq_true (by omega)) (decide_eq_false (by omega)) (pz (by omega)) (dU (by omega)) (EY (by omega)) (by exact fq (by omega) (by omega)) (by exact dQ (by omega) (by omega) (by first|omega|(simp only [List.length_take,List.length_drop,List.length_append,List.length_cons,List.length_nil];omega))) (bV _) hd0
        have en:((p:Int).toNat)=((List.take (p*2 / 2) (List.drop 0 rs))).length:=by simp only [List.length_take,List.length_drop,List.length_append,List.length_cons,List.length_nil];omega
        exact .inr ⟨(List.take (p*2 / 2) (List.drop 0 rs)),true,(fun h=>by have:=congrArg List.length h;simp only [List.length_take,List.length_drop,List.length_append,List.length_cons,List.length_nil] at this;omega),bK (bJ hs _) _,by simp only [List.length_take,List.length_drop,List.length_append,List.length_cons,List.length_nil];omega,(by rw [←en];exact this)⟩
      · have:=NS (rs:=rs) (key:=key) (p:=p) (decide_eq_true (by omega)) (decide_eq_true (by omega)) (by assumption) (decide_eq_true (by omega)) (decide_eq_true (by omega)) (decide_eq_false (by omega)) (pz (by omega)) (dU (by omega)) (pz (by omega)) (dU (by omega)) (by exact fq (by omega) (by omega)) (by exact dQ (by omega) (by omega) (by first|omega|(simp only [List.length_take,List.length_drop,List.length_append,List.length_cons,List.length_nil];omega))) (by exact dQ (by omega) (by omega) (by first|omega|(simp only [List.length_take,List.length_drop,List.length_append,List.length_cons,List.length_nil];omega))) (by exact ox (by simp only [cd,List.length_take,List.length_drop,List.length_append,List.length_cons,List.length_nil];omega)) (bV _) (bV _) hd0
        have en:((p:Int).toNat+((rs.length:Int) - IntKind.i64.wrap ((p:Int)+1)).toNat)=((List.take (p*2 / 2) (List.drop 0 rs))++(List.take (((rs.length:Int) - IntKind.i64.wrap ((p:Int)+1)).toNat*2 / 2) (List.drop ((0+(IntKind.i64.wrap ((p:Int)+1)).toNat*2) / 2) rs))).length:=by simp only [List.length_take,List.length_drop,List.length_append,List.length_cons,List.length_nil];omega
        exact .inr ⟨(List.take (p*2 / 2) (List.drop 0 rs))++(List.take (((rs.length:Int) - IntKind.i64.wrap ((p:Int)+1)).toNat*2 / 2) (List.drop ((0+(IntKind.i64.wrap ((p:Int)+1)).toNat*2) / 2) rs)),true,(fun h=>by have:=congrArg List.length h;simp only [List.length_take,List.length_drop,List.length_append,List.length_cons,List.length_nil] at this;omega),bR (bK (bJ hs _) _) (bK (bJ hs _) _),by simp only [List.length_take,List.length_drop,List.length_append,List.length_cons,List.length_nil];omega,(by rw [←en];rw [aI];exact this)⟩
 · have:=Mv (rs:=rs) (key:=key) (p:=p) (decide_eq_false (by omega)) (pz (by omega)) (dU (by omega)) (by exact dQ (by omega) (by omega) (by first|omega|(simp only [List.length_take,List.length_drop,List.length_append,List.length_cons,List.length_nil];omega))) (bV _) hd0
   have en:(rs.length)=((List.take (rs.length*2 / 2) (List.drop 0 rs))).length:=by simp only [List.length_take,List.length_drop,List.length_append,List.length_cons,List.length_nil];omega
   exact .inr ⟨(List.take (rs.length*2 / 2) (List.drop 0 rs)),false,(fun h=>by have:=congrArg List.length h;simp only [List.length_take,List.length_drop,List.length_append,List.length_cons,List.length_nil] at this;omega),bK (bJ hs _) _,by simp only [List.length_take,List.length_drop,List.length_append,List.length_cons,List.length_nil];omega,(by rw [←en];exact this)⟩
end
section
open Go.Sx
def qY (low high:ByteArray) (unb:Bool) (key:ByteArray):Bool:=decide (de low key≤0) && (unb || decide (de key high < 0))
def HX (xs:List Value):Option (Bool×Value):=match xs with
 | [.string low,.string high,.bool unb,.string key]=>some (low.data.toList.length.ble 4294967295 && key.data.toList.length.ble 4294967295,.bool (qY low high unb key))
 |_=>none
noncomputable def eM:aP:=iZ Ec 104 HX
section
set_option maxRecDepth 100000
set_option linter.unusedSectionVars false
variable {low high key:ByteArray}{unb:Bool}
variable (k0:(low.data.toList.length.ble (4294967295:Nat))=true)(k1:(decide (de low key≤(0:Int)))=true)(k2:(unb)=true)(k3:(unb)=false)(k4:(key.data.toList.length.ble (4294967295:Nat))=true)(k5:(decide (de low key≤(0:Int)))=false)
include k0 k1 k2 in
theorem Qv:cQ Tryz.prog 104 [.string low,.string high,.bool unb,.string key] (.bool true):=by
 obtain⟨_,_,hd,_⟩:=fJ (n:=600) (t:= .call 104 [.string low,.string high,.bool unb,.string key]) (d:=aT [0,1,2,3,4,5,6,7,8,9] []) (c:=0) (h:= []) (v:= .bool true) (x:=none) mixed ae (by kernel_rfl) (vB k1 (vB k2 (vB k1 (ax k2 (cZ k1 (vC k0 vN))))))
 exact dp hd rfl rfl
include k0 k1 k3 k4 in
theorem PB:cQ Tryz.prog 104 [.string low,.string high,.bool unb,.string key] (.bool (decide (de key high < (0:Int)))):=by
 obtain⟨_,_,hd,_⟩:=fJ (n:=600) (t:= .call 104 [.string low,.string high,.bool unb,.string key]) (d:=aT [0,1,2,6,8,10] (aF [3,4,5,7,9] [])) (c:=0) (h:= []) (v:= .bool (decide (de key high < (0:Int)))) (x:=none) mixed ae (by kernel_rfl) (vB k1 (vB k3 (vB k1 (vB k3 (vC k4 (aX k3 (cZ k1 (vC k0 vN))))))))
 exact dp hd rfl rfl
include k0 k5 in
theorem N0:cQ Tryz.prog 104 [.string low,.string high,.bool unb,.string key] (.bool false):=by
 obtain⟨_,_,hd,_⟩:=fJ (n:=600) (t:= .call 104 [.string low,.string high,.bool unb,.string key]) (d:=aT [0] (aF [1,2,3,4] [])) (c:=0) (h:= []) (v:= .bool false) (x:=none) mixed ae (by kernel_rfl) (ax k5 (vC k0 vN))
 exact dp hd rfl rfl
theorem LB {xs:List Value}{b:Bool}{v:Value} (h:HX xs=some (b,v)) (hb:b=true):cQ Tryz.prog 104 xs v:=by
 unfold HX at h
 split at h
 · rename_i low high unb key
   simp only [Option.some.injEq,Prod.mk.injEq] at h
   obtain⟨rfl,rfl⟩:=h
   simp only [Bool.and_eq_true] at hb
   cases q:decide (de low key≤(0:Int)) with
   |false=>have:=N0 (low:=low) (high:=high) (key:=key) (unb:=unb) hb.1 q;simpa [qY,q] using this
   |true=>
    cases u:unb with
    |true=>have:=Qv (low:=low) (high:=high) (key:=key) (unb:=true) hb.1 q rfl;simpa [qY,q] using this
    |false=>have:=PB (low:=low) (high:=high) (key:=key) (unb:=false) hb.1 q rfl hb.2;simpa [qY,q] using this
 · cases h
theorem aA:cC Tryz.prog eM:=ae.iZ fun _ _ _ h hb=>LB h hb
end
end
section
open Go Go.Sx
noncomputable def xj:Code:=bD [1,0,1,0,0] (bA 122)
noncomputable def wT (a b:ByteArray) (j:Nat):List Value:=ay 30 0 [(0,.string a),(1,.string b),(5,.int .i64 j)]
section
set_option maxRecDepth 100000
set_option linter.unusedSectionVars false
variable {a b:ByteArray}{j:Nat}{x:Bool}
variable (k0:(Decidable.decide ((j:Int) < (b.data.toList.length:Int)))=true)(k1:((j:Int)==(a.data.toList.length:Int))=false)(k2:(Decidable.decide (0≤(j:Int)∧(j:Int) < (a.data.toList.length:Int)))=true)(k3:(Decidable.decide (0≤(j:Int)∧(j:Int) < (b.data.toList.length:Int)))=true)(k4:((((a.data.toList.getD ((j:Int)).toNat 0).toNat:Nat):Int) !=(((b.data.toList.getD ((j:Int)).toNat 0).toNat:Nat):Int))=false)(k5:((j:Int)==(a.data.toList.length:Int))=true)(k6:((((a.data.toList.getD ((j:Int)).toNat 0).toNat:Nat):Int) !=(((b.data.toList.getD ((j:Int)).toNat 0).toNat:Nat):Int))=true)(k7:(Decidable.decide ((j:Int) < (b.data.toList.length:Int)))=false)(k8:ab Tryz.prog 0 [] 0 [] (.inLoop xj (wT a b 0)) (.out (.exit 0) (ay 30 0 [])))(k9:ab Tryz.prog 0 [] 0 [] (.inLoop xj (wT a b 0)) (.out .ret (ay 30 0 [(4,.bool x)])))
include k0 k1 k2 k3 k4 in
theorem UF:Sx.bX Tryz.prog 0 0 0 [] xj (wT a b j) [] (ay 30 0 [(0,.string a),(1,.string b),(5,.int .i64 (IntKind.i64.wrap ((j:Int)+1)))]):=
 bc mixed bk.holds [] [] (d:=aT [0,2,3] (aF [1,4] [])) (n:=600) (c2:=0) (L':= []) (by kernel_rfl) rfl rfl (af)
  (vB k4 (vC k3 (vC k2 (vB k1 (vB k0 vN)))))
include k0 k5 in
theorem UI:Sx.Ends Tryz.prog 0 0 0 [] xj (wT a b j) .ret [] (ay 30 0 [(4,.bool true)]):=
 bL mixed bk.holds [] [] (d:=aT [0,1] []) (n:=600) (c2:=0) (L':= []) (by kernel_rfl) rfl rfl (af)
  (vB k5 (vB k0 vN))
include k0 k1 k2 k3 k6 in
theorem UH:Sx.Ends Tryz.prog 0 0 0 [] xj (wT a b j) .ret [] (ay 30 0 [(4,.bool (Decidable.decide ((((a.data.toList.getD ((j:Int)).toNat 0).toNat:Nat):Int) < (((b.data.toList.getD ((j:Int)).toNat 0).toNat:Nat):Int))))]):=
 bL mixed bk.holds [] [] (d:=aT [0,2,3,4,5,6] (aF [1] [])) (n:=600) (c2:=0) (L':= []) (by kernel_rfl) rfl rfl (af)
  (vC k3 (vC k2 (vB k6 (vC k3 (vC k2 (vB k1 (vB k0 vN)))))))
include k7 in
theorem UE:Sx.Ends Tryz.prog 0 0 0 [] xj (wT a b j) (.exit 0) [] (ay 30 0 []):=
 bL mixed bk.holds [] [] (d:=aF [0] []) (n:=600) (c2:=0) (L':= []) (by kernel_rfl) rfl rfl (af)
  (vB k7 vN)
include k8 in
theorem TZ:cQ Tryz.prog 122 [.string a,.string b] (.bool false):=by
 obtain⟨c1,h1,hd,_⟩:=fJ (n:=600) (t:= .call 122 [.string a,.string b]) (d:= [(0,.loop [0,1,5] [] 0 [] (.exit 0) (ay 30 0 []))]) (c:=0) (h:= []) (v:=(.bool false)) (x:=none) mixed bk.holds (by kernel_rfl)
  (vP k8 vN)
 exact dp hd rfl rfl
include k9 in
theorem TS:cQ Tryz.prog 122 [.string a,.string b] (.bool x):=by
 obtain⟨c1,h1,hd,_⟩:=fJ (n:=600) (t:= .call 122 [.string a,.string b]) (d:= [(0,.loop [0,1,5] [] 0 [] .ret (ay 30 0 [(4,.bool x)]))]) (c:=0) (h:= []) (v:=(.bool x)) (x:=none) mixed bk.holds (by kernel_rfl)
  (vP k9 vN)
 exact dp hd rfl rfl
def qB:List UInt8→List UInt8→Bool
 |_,[]=>false
 | [],_::_=>true
 |x::xs,y::ys=>if x=y then qB xs ys else decide (x < y)
def nC (a b:ByteArray):Bool:=qB a.data.toList b.data.toList
theorem Mc {a b:ByteArray} (hs:(a.data.toList.length:Int) < 4294967296) {h0:Heap}:∀(k j:Nat),j+k=b.data.toList.length→j≤a.data.toList.length→
  (qB (a.data.toList.drop j) (b.data.toList.drop j)=false∧Mid Tryz.prog 0 h0 0 [] 0 [] xj (wT a b j) (.exit 0) (ay 30 0 []))∨
  Mid Tryz.prog 0 h0 0 [] 0 [] xj (wT a b j) .ret (ay 30 0 [(4,.bool (qB (a.data.toList.drop j) (b.data.toList.drop j)))]):=by
 intro k
 induction k with
 |zero=>
  intro j hj ha
  left
  rw [List.drop_of_length_le (l:=b.data.toList) (by omega)]
  exact⟨by cases a.data.toList.drop j <;> rfl,(UE (decide_eq_false (by omega))).dt (by simp) (by decide)⟩
 |succ k ih=>
  intro j hj ha
  have hl:j < b.data.toList.length:=by omega
  have b0:Decidable.decide ((j:Int) < (b.data.toList.length:Int))=true:=decide_eq_true (by omega)
  by_cases e:j=a.data.toList.length
  · right
    rw [List.drop_of_length_le (l:=a.data.toList) (by omega),vL hl]
    exact(UI b0 (beq_iff_eq.2 (by omega))).dt (by simp) (by decide)
  · have b1:((j:Int)==(a.data.toList.length:Int))=false:=beq_eq_false_iff_ne.2 (by omega)
    have b2:Decidable.decide (0≤(j:Int)∧(j:Int) < (a.data.toList.length:Int))=true:=decide_eq_true (by omega)
    have b3:Decidable.decide (0≤(j:Int)∧(j:Int) < (b.data.toList.length:Int))=true:=decide_eq_true (by omega)
    rw [vL hl,vL (l:=a.data.toList) (by omega)]
    by_cases hx:a.data.toList.getD j 0=b.data.toList.getD j 0
    · have g:=UF (a:=a) (b:=b) (j:=j) b0 b1 b2 b3 (by rw [Int.toNat_natCast,hx];simp)
      rw [wrap64 (by omega) (by omega)] at g
      simp only [qB,hx,if_true]
      rcases ih (j+1) (by omega) (by omega) with⟨q1,q2⟩|q
      · exact .inl ⟨q1,g.dt (by decide) (by decide) q2⟩
      · exact .inr (g.dt (by decide) (by decide) q)
    · right
      simp only [qB,hx,if_false]
      have hne:((((a.data.toList.getD ((j:Int)).toNat 0).toNat:Nat):Int) !=(((b.data.toList.getD ((j:Int)).toNat 0).toNat:Nat):Int))=true:=by
       rw [Int.toNat_natCast,bne_iff_ne]
       exact fun q=>hx (UInt8.toNat_inj.1 (Int.ofNat_inj.1 q))
      have g:=UH (a:=a) (b:=b) (j:=j) b0 b1 b2 b3 hne
      rw [Int.toNat_natCast,show Decidable.decide ((((a.data.toList.getD j 0).toNat:Nat):Int) < (((b.data.toList.getD j 0).toNat:Nat):Int))=decide (a.data.toList.getD j 0 < b.data.toList.getD j 0) by rw [decide_eq_decide,UInt8.lt_iff_toNat_lt];omega] at g
      exact g.dt (by simp) (by decide)
theorem F4 (a b:ByteArray) (hs:(a.data.toList.length:Int) < 4294967296):cQ Tryz.prog 122 [.string a,.string b] (.bool (nC a b)):=by
 rcases Mc (a:=a) (b:=b) hs (h0:= []) b.data.toList.length 0 (by omega) (by omega) with⟨q1,q2⟩|q
 · rw [List.drop_zero,List.drop_zero] at q1
   rw [show nC a b=false from q1]
   exact TZ (fG (by decide) q2)
 · rw [List.drop_zero,List.drop_zero] at q
   exact TS (fG (by decide) q)
theorem CG:∀x y:List UInt8,qB x y=if dH x y=y.length then false else if dH x y=x.length then true else decide (x.getD (dH x y) 0 < y.getD (dH x y) 0)
 | [],[]=>rfl
 |_::_,[]=>rfl
 | [],_::_=>rfl
 |a::x,b::y=>by
  by_cases h:a=b
  · subst h
    have ih:=CG x y
    simp only [qB,dH,if_true,List.length_cons,Nat.add_right_cancel_iff,List.getD_cons_succ]
    exact ih
  · simp only [qB,dH,if_neg h,List.length_cons,List.getD_cons_zero]
    rw [if_neg (by omega),if_neg (by omega)]
theorem CX (a b:ByteArray):nC a b=decide (de a b < 0):=by
 unfold nC de
 rw [CG]
 have h0:dr a b=(dH a.data.toList b.data.toList:Int):=rfl
 rw [h0]
 by_cases e2:dH a.data.toList b.data.toList=b.data.toList.length
 · rw [if_pos e2,decide_eq_true (p:=(dH a.data.toList b.data.toList:Int)=(b.data.toList.length:Int)) (by omega)]
   by_cases e1:dH a.data.toList b.data.toList=a.data.toList.length
   · rw [decide_eq_true (p:=(dH a.data.toList b.data.toList:Int)=(a.data.toList.length:Int)) (by omega)]
     rfl
   · rw [decide_eq_false (p:=(dH a.data.toList b.data.toList:Int)=(a.data.toList.length:Int)) (by omega)]
     rfl
 · rw [if_neg e2,decide_eq_false (p:=(dH a.data.toList b.data.toList:Int)=(b.data.toList.length:Int)) (by omega)]
   by_cases e1:dH a.data.toList b.data.toList=a.data.toList.length
   · rw [if_pos e1,decide_eq_true (p:=(dH a.data.toList b.data.toList:Int)=(a.data.toList.length:Int)) (by omega)]
     rfl
   · rw [if_neg e1,decide_eq_false (p:=(dH a.data.toList b.data.toList:Int)=(a.data.toList.length:Int)) (by omega),Int.toNat_natCast]
     by_cases e3:a.data.toList.getD (dH a.data.toList b.data.toList) 0 < b.data.toList.getD (dH a.data.toList b.data.toList) 0
     · have e4:=UInt8.lt_iff_toNat_lt.1 e3
       rw [decide_eq_true e3,decide_eq_true (p:=((((a.data.toList.getD (dH a.data.toList b.data.toList) 0).toNat:Nat):Int)) < (((b.data.toList.getD (dH a.data.toList b.data.toList) 0).toNat:Nat):Int)) (by omega)]
       rfl
     · have e4:¬(a.data.toList.getD (dH a.data.toList b.data.toList) 0).toNat < (b.data.toList.getD (dH a.data.toList b.data.toList) 0).toNat:=fun q=>e3 (UInt8.lt_iff_toNat_lt.2 q)
       rw [decide_eq_false e3,decide_eq_false (p:=((((a.data.toList.getD (dH a.data.toList b.data.toList) 0).toNat:Nat):Int)) < (((b.data.toList.getD (dH a.data.toList b.data.toList) 0).toNat:Nat):Int)) (by omega)]
       rfl
end
end
end Go.Proofs.YtalanookmohdeaaGreatDoor
namespace Go.Sx
variable {P:Program}
theorem Sat.less {r:Env}{ow:Nat→Option Nat}{H H':Heap}{w:World} (hs:Sat P r ow H w) (h:∀n x,H'.get n=some x→H.get n=some x):Sat P r ow H' w:=
 ⟨fun n c e=>hs.chunk n c (h n c e),hs.bound,hs.known⟩
theorem yM {r:Env}{ow:Nat→Option Nat}{H:Heap}{w:World}{n:Nat}{x y:aG} (hs:Sat P r ow H w) (hn:H.get n=some (.sem x)) (hxy:∀S,x.holds w S→y.holds w S):Sat P r ow (H.put n (.sem y)) w:=
 ⟨fun m c e=>by
  rw [Heap.cG] at e
  split at e
  · rename_i q;rw [q];cases e
    exact hxy _ (hs.chunk n _ hn)
  · exact hs.chunk m c e,hs.bound,hs.known⟩
def D8 (r:Env) (L:List Nat):Env:=⟨fun i=>match L[i]? with|some m=>r.blk m|none=>none,fun i=>match L[i]? with|some m=>r.cap m|none=>0,fun i=>match L[i]? with|some m=>r.val m|none=>none⟩
theorem xe {r:Env}{ow:Nat→Option Nat}{H h:Heap}{w:World}{n b m0:Nat}{l:List Nat}{F:Env→Heap→Prop}{y:aG} (hs:Sat P r ow H w) (hn:H.get n=some (.sem y)) (hl:cu (m0::l)=true) (hnl:n ∉ m0::l)
  (hk:r.blk n≠none∨r.val n≠none) (hm:r.blk m0=some b) (hF:F (D8 r (m0::l)) h)
  (hh:∀i x',h.get i=some x'→∃m x,(m0::l)[i]? =some m∧H.get m=some x∧az (x.bC (back (m0::l))) x'):
  ∃ow',Sat P r ow' (((H.cw (m0::l)).put n (.sem ((gW P b F).sep y)))) w∧(∀b x,ow' b=some x→(∃b',ow b'=some x)∨x=n)∧(∀b,ow b=none→ow' b=none):=by
 classical
 let L:=m0::l
 let ow':Nat→Option Nat:=fun x=>match ow x with
  |some m=>if m∈L then some n else some m
  |none=>none
 let r0:Env:=D8 r L
 let ow0:Nat→Option Nat:=fun x=>match ow x with
  |some m=>back L m
  |none=>none
 have hat:∀m i,back L m=some i→r0.blk i=r.blk m∧r0.cap i=r.cap m∧r0.val i=r.val m:=fun m i e=>by
  have:=jg e
  refine⟨?_,?_,?_⟩ <;> (show(match L[i]? with|some m=>_|none=>_)=_;rw [this])
 have hbox:(gW P b F).holds w (fun x=>∃m,ow x=some m∧m∈L):=by
  refine⟨r0,ow0,h,hF,hm,⟨fun i x' hx=> ?_,fun x i hx=> ?_,fun x i hx=> ?_⟩,fun x hx=> ?_⟩
  · obtain⟨m,x,q1,q2,q3⟩:=hh i x' hx
    have hbk:=CV hl q1
    refine oi hat (fun z hz=> ?_) hbk q3 (hs.chunk m x q2)
    show(match ow z with|some m=>back L m|none=>none)=some i
    rw [hz];exact hbk
  · cases e:ow x with
    |none=>have:ow0 x=none:=by show(match ow x with|some m=>_|none=>_)=none;rw [e]
           rw [this] at hx;cases hx
    |some m=>exact hs.bound x m e
  · cases e:ow x with
    |none=>have:ow0 x=none:=by show(match ow x with|some m=>_|none=>_)=none;rw [e]
           rw [this] at hx;cases hx
    |some m=>
     have hx':back L m=some i:=by
      have:ow0 x=back L m:=by show(match ow x with|some m=>_|none=>_)=_;rw [e]
      rw [←this];exact hx
     obtain⟨q1,_,q3⟩:=hat m i hx'
     rw [q1,q3];exact hs.known x m e
  · cases e:ow x with
    |none=>have:ow0 x=none:=by show(match ow x with|some m=>_|none=>_)=none;rw [e]
           exact absurd this hx
    |some m=>
     refine⟨m,e,?_⟩
     have:ow0 x=back L m:=by show(match ow x with|some m=>_|none=>_)=_;rw [e]
     rw [this] at hx
     cases e2:back L m with
     |none=>exact absurd e2 hx
     |some i=>exact List.mem_of_getElem? (jg e2)
 refine⟨ow',⟨fun m c hc=> ?_,fun x m hx=> ?_,fun x m hx=> ?_⟩,fun x m hx=> ?_,fun x hx=> ?_⟩
 · rw [Heap.cG] at hc
   split at hc
   · rename_i q;rw [q];cases hc
     refine⟨fun x=>∃m,ow x=some m∧m∈L,fun x=>ow x=some n,fun x ⟨m,e,hmem⟩=> ?_,fun x e=> ?_,fun x ⟨m,e,hmem⟩ e2=> ?_,hbox,hs.chunk n _ hn⟩
     · show(match ow x with|some m=>_|none=>_)=_
       rw [e];simp only;rw [if_pos hmem]
     · show(match ow x with|some m=>_|none=>_)=_
       rw [show ow x=some n from e]
       show(if n∈L then some n else some n)=some n
       simp
     · have:ow x=some n:=e2
       rw [e] at this;cases this;exact hnl hmem
   · rename_i q
     rw [Heap.dJ] at hc
     split at hc
     · cases hc
     · rename_i q2
       refine Chunk.cR (fun _ _=>rfl) (fun x=> ?_) (hs.chunk m c hc)
       show(match ow x with|some m=>_|none=>_)=some m ↔ _
       cases e:ow x with
       |none=>simp
       |some m'=>
        simp only
        by_cases q3:m'∈L
        · rw [if_pos q3]
          constructor
          · intro z;cases z;exact absurd rfl q
          · intro z;cases z;exact absurd q3 q2
        · rw [if_neg q3]
 · cases e:ow x with
   |none=>have:ow' x=none:=by show(match ow x with|some m'=>_|none=>_)=none;rw [e]
          rw [this] at hx;cases hx
   |some m'=>exact hs.bound x m' e
 · cases e:ow x with
   |none=>have:ow' x=none:=by show(match ow x with|some m'=>_|none=>_)=none;rw [e]
          rw [this] at hx;cases hx
   |some m'=>
    have hx':(if m'∈L then some n else some m')=some m:=by
     have:ow' x=(if m'∈L then some n else some m'):=by show(match ow x with|some m'=>_|none=>_)=_;rw [e]
     rw [←this];exact hx
    split at hx'
    · cases hx';exact hk
    · cases hx';exact hs.known x _ e
 · cases e:ow x with
   |none=>have:ow' x=none:=by show(match ow x with|some m'=>_|none=>_)=none;rw [e]
          rw [this] at hx;cases hx
   |some m'=>
    have hx':(if m'∈L then some n else some m')=some m:=by
     have:ow' x=(if m'∈L then some n else some m'):=by show(match ow x with|some m'=>_|none=>_)=_;rw [e]
     rw [←this];exact hx
    split at hx'
    · cases hx';exact .inr rfl
    · cases hx';exact .inl ⟨x,e⟩
 · show(match ow x with|some m'=>_|none=>_)=none
   rw [hx]
theorem EC {I:Type}{f:FuncId}{n k b K c c1:Nat}{H H1:Heap}{L:List aG}{R0 R1:aG}{F F':Env→Heap→Prop}{Q:I→Env→Prop}{hp:I→Heap}{args args':List Value}{v:Value}
  (hn:H.get n=some (.sem (ad L))) (hk:L[k]? =some R0) (hR0:∀w S,R0.holds w S→(gW P b F).holds w S) (hnc:n < c) (hb:a8 c H=true)
  (hF:∀r h,F r h→∃i,h=hp i∧Q i r) (hK:∀i,a8 K (hp i)=true) (hroot:∀i,∃x t,(hp i).get 0=some (.cells x t)) (hK0:0 < K) (hc1:c+K≤c1)
  (hargs:∀(r:Env) (us:List Value),r.blk c=some b→aw r args us→aw r args' us)
  (hR1:∀w S,(gW P b F').holds w S→R1.holds w S)
  (hdo:∀i,∃c2 h2 l h',ab P (c+K) (H.put n (.sem (ad (L.eraseIdx k)))++aB c K (hp i)) c2 h2 (.call f args') (.val v)∧c2≤c1∧h2.get n=some (.sem (ad (L.eraseIdx k)))∧cu (c::l)=true∧n ∉ c::l∧(∀r0 r2:Env,Q i r0→(∀j v,j < K→r0.val j=some v→r2.val (c+j)=some v)→F' (D8 r2 (c::l)) h')∧
   (∀j x',h'.get j=some x'→∃m x,(c::l)[j]? =some m∧h2.get m=some x∧az (x.bC (back (c::l))) x')∧
   (∀m x,H1.get m=some x→(m=n∧x= .sem (ad (L.set k R1)))∨(m≠n∧m ∉ c::l∧h2.get m=some x))):ab P c H c1 H1 (.call f args) (.val v):=by
 refine⟨by omega,fun r ow w hs hfr us hus=> ?_⟩
 have hkl:k < L.length:=(List.getElem?_eq_some_iff.1 hk).1
 have hkr:L[k]=R0:=(List.getElem?_eq_some_iff.1 hk).2
 have hs1:=yM (y:=(gW P b F).sep (ad (L.eraseIdx k))) hs hn fun S h=>by
  obtain⟨S1,S2,q1,q2,q3,q4,q5⟩:=oD hkl h
  rw [hkr] at q4
  exact⟨S1,S2,q1,q2,q3,hR0 _ _ q4,q5⟩
 have hn1:(H.put n (.sem ((gW P b F).sep (ad (L.eraseIdx k))))).get n=some (.sem ((gW P b F).sep (ad (L.eraseIdx k)))):=by rw [Heap.cG];simp
 have hb1:a8 c (H.put n (.sem ((gW P b F).sep (ad (L.eraseIdx k)))))=true:=by
  clear hs hs1 hn1 hdo hn
  induction H with
  |nil=>simp [Heap.put,a8,hnc]
  |cons z H ih=>
   obtain⟨m,d⟩:=z
   simp only [Heap.put]
   simp only [a8,Bool.and_eq_true] at hb
   cases e:Nat.beq m n with
   |true=>show(Nat.blt m c && a8 c H)=true;rw [hb.1,hb.2];rfl
   |false=>show(Nat.blt m c && a8 c (Heap.put H n _))=true;rw [hb.1,ih hb.2];rfl
 have hknown:r.blk n≠none∨r.val n≠none:=by
  obtain⟨S1,S2,q1,q2,q3,⟨r0,ow0,h,g1,g2,g3,g4⟩,q5⟩:=hs1.chunk n _ hn1
  obtain⟨i,rfl,_⟩:=hF r0 h g1
  obtain⟨x,t,hx⟩:=hroot i
  obtain⟨b',_,z1,z2,_⟩:=g3.chunk 0 _ hx
  exact hs.known b' n (q1 b' (g4 b' (by rw [z2];simp)))
 obtain⟨h,r0,r1,ow1,g1,gv,g2,g3,g4,g5,g6,g7⟩:=Gq (K:=K) hs1 hn1 hnc hb1 (hfr.sub (Nat.le_refl _) hc1) (fun r h hF' i x hx=>by obtain⟨j,rfl,_⟩:=hF r h hF';exact gf (hK j) hx)
 obtain⟨i,rfl,hQ⟩:=hF r0 h g1
 obtain⟨c2,h2,l,h',d1,d2,d3,d4,d5,d6,d7,d8⟩:=hdo i
 have hput:∀m,((H.put n (.sem ((gW P b F).sep (ad (L.eraseIdx k))))).put n (.sem (ad (L.eraseIdx k)))++aB c K (hp i)).get m=(H.put n (.sem (ad (L.eraseIdx k)))++aB c K (hp i)).get m:=fun m=>by
  rw [Heap.get_append,Heap.get_append,Heap.cG,Heap.cG,Heap.cG]
  by_cases q:m=n
  · simp [q]
  · simp [q]
 have hs2:Sat P r1 ow1 (H.put n (.sem (ad (L.eraseIdx k)))++aB c K (hp i)) w:=g4.less fun m x e=>by rw [hput];exact e
 have hfr1:bF r1 (c+K) c2:=by
  have:bF r c c1:=hfr
  exact(bF.after this g5 (by omega)).sub (Nat.le_refl _) d2
 have hus1:aw r1 args' us.toList:=hargs r1 us.toList (g3 hK0) (hus.mono g2)
 refine Calls.mono (d1.2 r1 ow1 w hs2 hfr1 us hus1) fun e w' ⟨r2,ow2,u,he,hp2,hv⟩=> ?_
 have hroot2:r2.blk c=some b:=hp2.le.blk _ _ (g3 hK0)
 have hkn2:r2.blk n≠none∨r2.val n≠none:=(g2.trans hp2.le).known hknown
 obtain⟨ow3,k1,k2,k3⟩:=xe (F:=F') hp2.sat d3 d4 d5 hkn2 hroot2 (d6 r0 r2 hQ fun j v hj hv=>hp2.le.val _ _ (gv j v hj hv)) d7
 have hlen:(L.set k R1).length=L.length:=by simp
 have hn3:((h2.cw (c::l)).put n (.sem ((gW P b F').sep (ad (L.eraseIdx k))))).get n=some (.sem ((gW P b F').sep (ad (L.eraseIdx k)))):=by rw [Heap.cG];simp
 have hs3:=yM (y:=ad (L.set k R1)) k1 hn3 fun S ⟨S1,S2,q1,q2,q3,q4,q5⟩=>qu (x:=R1) hkl ⟨S1,S2,q1,q2,q3,hR1 _ _ q4,q5⟩
 have hs4:Sat P r2 ow3 H1 w':=hs3.less fun m x e=>by
  rw [Heap.cG,Heap.cG,Heap.dJ]
  rcases d8 m x e with⟨rfl,rfl⟩|⟨q1,q2,q3⟩
  · simp
  · rw [if_neg q1,if_neg q1,if_neg q2];exact q3
 refine⟨r2,ow3,u,he,?_,hv⟩
 have f1:=hp2.frame
 refine⟨g2.trans hp2.le,hs4,⟨f1.os,f1.tape,f1.output,f1.size,fun x hx ho=> ?_⟩,?_,by show c≤c1;omega,fun x m e=> ?_⟩
 · have z:=f1.aq x hx (g7 x ho)
   exact⟨k3 x z.1,z.2⟩
 · have:fI r r2 c c2:=by
    have:=hp2.new
    exact g5.trans this (by omega) hp2.mono
   exact⟨fun m e=>(this.1 m e).imp id fun⟨a,b⟩=>⟨a,by show m < c1;omega⟩,fun m e=>(this.2 m e).imp id fun⟨a,b⟩=>⟨a,by show m < c1;omega⟩⟩
 · have hback:(∃b',ow2 b'=some m)→(∃b',ow b'=some m)∨(c≤m∧m < c1):=fun⟨b',e'⟩=>by
    rcases hp2.own b' m e' with⟨b'',e''⟩|⟨e1,e2⟩
    · rcases g6 b'' m e'' with z|z
      · exact .inl z
      · exact .inr ⟨z.1,by omega⟩
    · have e1':c+K≤m:=e1
      have e2':m < c2:=e2
      exact .inr ⟨by omega,by omega⟩
   rcases k2 x m e with z|rfl
   · exact hback z
   · obtain⟨S1,S2,q1,q2,q3,⟨r0,ow0,h,g1',g2',g3',g4'⟩,q5⟩:=hs1.chunk m _ hn1
     obtain⟨i',rfl,_⟩:=hF r0 h g1'
     obtain⟨x',t',hx'⟩:=hroot i'
     obtain⟨b',_,z1,z2,_⟩:=g3'.chunk 0 _ hx'
     exact .inl ⟨b',q1 b' (g4' b' (by rw [z2];simp))⟩
def cg (P:Program) (c K n c1:Nat) (l:List Nat) (S h:Heap) (f:FuncId) (args:List Value) (v:Value) (S1 h':Heap):Prop:=
 ∀Y:aG,∃c2 h2,ab P (c+K) (S++(n,.sem Y)::h) c2 h2 (.call f args) (.val v)∧c2≤c1∧h2.get n=some (.sem Y)∧cu (c::l)=true∧n ∉ c::l∧
  (∀j x',h'.get j=some x'→∃m x,(c::l)[j]? =some m∧h2.get m=some x∧az (x.bC (back (c::l))) x')∧
  (∀m x,S1.get m=some x→m≠n∧m ∉ c::l∧h2.get m=some x)
def G2 (n c:Nat) (l:List Nat) (ss:List (Nat×Bool)) (h':Heap) (ks:List Nat):Option (dI×St)→Option (Value×Nat×Heap×List VC×List (Option Chunk)×List VC×Option Chunk)
 |some (.val v,s)=>match i4 (back (c::l)) s.h ss h' with
  |some (g,Lg)=>some (v,s.c,g,Lg,ks.map s.h.get,s.V,s.h.get n)
  |none=>none
 |_=>none
def vk (n c:Nat) (l:List Nat):List Nat→Bool
 | []=>true
 |m::ms=> !(Nat.beq m n) && !(cY m (c::l)) && vk n c l ms
theorem uB {n c m:Nat}{l:List Nat}:∀ {ms:List Nat},vk n c l ms=true→m∈ms→m≠n∧m ∉ c::l
 | [],_,h=>by cases h
 |x::ms,h,hm=>by
  simp only [vk,Bool.and_eq_true,Bool.not_eq_true',cj,decide_eq_false_iff_not] at h
  cases hm with
  |head=>exact⟨h.1.1,fun q=>by rw [eZ.2 q] at h;exact absurd h.1.2 (by simp)⟩
  |tail _ hm=>exact uB h.2 hm
def aY:Heap→List Nat
 | []=> []
 |(m,_)::h=>m::aY h
theorem jD {m:Nat}{x:Chunk}:∀ {h:Heap},h.get m=some x→m∈aY h
 | [],e=>by simp [Heap.get] at e
 |(k,y)::h,e=>by
  simp only [Heap.get,cj] at e
  by_cases q:k=m
  · subst q;exact List.mem_cons_self
  · simp only [q,decide_false] at e
    exact List.mem_cons_of_mem _ (jD e)
theorem ak (hm:P.follows .mixedOrders=true) {C:aP} (hC:cC P C) {n c K c1 nn c2:Nat}{S h S1 h':Heap}{f:FuncId}{args:List Value}{v:Value}{d:bj} (l:List Nat) (ss:List (Nat×Bool)) {Lv Lg:List VC}
  (e0:∀Y:aG,G2 n c l ss h' (aY S1) (gn P C nn (.call f args) d (bb (c+K) (S++(n,.sem Y)::h)))=some (v,c2,h',Lg,(aY S1).map S1.get,Lv,some (.sem Y)))
  (hc:Nat.ble c2 c1=true) (hl:cu (c::l)=true) (hS:vk n c l (aY S1)=true) (hg:aW Lg) (hV:aW Lv) (hnl:cY n (c::l)=false):cg P c K n c1 l S h f args v S1 h':=by
 intro Y
 have e0:=e0 Y
 match e1:gn P C nn (.call f args) d (bb (c+K) (S++(n,.sem Y)::h)),e0 with
 |some (.val v',s'),e0=>
  simp only [G2] at e0
  cases e2:i4 (back (c::l)) s'.h ss h' with
  |none=>simp [e2] at e0
  |some g=>
   obtain⟨g,L1⟩:=g
   simp only [e2,Option.some.injEq,Prod.mk.injEq] at e0
   obtain⟨rfl,rfl,rfl,rfl,h5,rfl,h7⟩:=e0
   refine⟨s'.c,s'.h,gb hm hC e1 hV,Nat.le_of_ble_eq_true hc,h7,hl,fun q=> ?_,fun j x' hj=> ?_,fun m x hx=> ?_⟩
   · rw [eZ.2 q] at hnl;cases hnl
   · obtain⟨s,x,q1,q2,q3⟩:=l9 e2 hg hj
     exact⟨s,x,jg q1,q2,q3⟩
   · have hmem:=jD hx
     obtain⟨q1,q2⟩:=uB hS hmem
     refine⟨q1,q2,?_⟩
     have:s'.h.get m=S1.get m:=by
      have:=List.map_inj_left.1 h5
      exact this m hmem
     rw [this];exact hx
theorem jv {n m:Nat}{X:Chunk}:∀ {S:Heap},a8 n S=true∨cY n (aY S)=false→Heap.get (S++ [(n,X)]) m=if m=n then some X else Heap.get S m
 | [],_=>by
  by_cases q:m=n
  · simp [Heap.get,cj,q]
  · have:n≠m:=fun z=>q z.symm
    simp [Heap.get,cj,q,this]
 |(k,y)::S,h=>by
  have hk:k≠n:=by
   rcases h with h|h
   · have:=gf (n:=k) (x:=y) h (by simp [Heap.get])
     omega
   · intro q;subst q
     simp [aY,cY] at h
  have ih:Heap.get (S++ [(n,X)]) m=if m=n then some X else Heap.get S m:=jv (by
   rcases h with h|h
   · simp only [a8,Bool.and_eq_true] at h;exact .inl h.2
   · refine .inr ?_
     cases q:cY n (aY S) with
     |false=>rfl
     |true=>
      have:=eZ.1 q
      have h2:cY n (aY ((k,y)::S))=true:=eZ.2 (List.mem_cons_of_mem _ this)
      rw [h2] at h;exact h)
  show Heap.get ((k,y)::(S++ [(n,X)])) m=if m=n then some X else Heap.get ((k,y)::S) m
  simp only [Heap.get,cj]
  rw [ih]
  by_cases q:k=m
  · subst q;simp [hk]
  · simp [q]
theorem pX {n:Nat}{X Y:Chunk}:∀ {S:Heap},cY n (aY S)=false→Heap.put (S++ [(n,X)]) n Y=S++ [(n,Y)]
 | [],_=>by simp [Heap.put,cj]
 |(k,y)::S,h=>by
  have hk:k≠n:=by intro q;subst q;simp [aY,cY] at h
  have h2:cY n (aY S)=false:=by
   cases q:cY n (aY S) with
   |false=>rfl
   |true=>
    have h2:cY n (aY ((k,y)::S))=true:=eZ.2 (List.mem_cons_of_mem _ (eZ.1 q))
    rw [h2] at h;exact h
  show Heap.put ((k,y)::(S++ [(n,X)])) n Y=(k,y)::(S++ [(n,Y)])
  simp only [Heap.put,cj]
  rw [pX h2];simp [hk]
theorem iL {I:Type}{f:FuncId}{n k b K c c1:Nat}{S S1:Heap}{L:List aG}{R0 R1:aG}{F F':Env→Heap→Prop}{Q:I→Env→Prop}{hp:I→Heap}{args args':List Value}{v:Value}
  (hk:L[k]? =some R0) (hR0:∀w S,R0.holds w S→(gW P b F).holds w S) (hnc:n < c) (hb:a8 c S=true) (hnS:cY n (aY S)=false) (hnS1:cY n (aY S1)=false)
  (hF:∀r h,F r h→∃i,h=hp i∧Q i r) (hK:∀i,a8 K (hp i)=true) (hroot:∀i,∃x t,(hp i).get 0=some (.cells x t)) (hK0:0 < K) (hc1:c+K≤c1)
  (hargs:∀(r:Env) (us:List Value),r.blk c=some b→aw r args us→aw r args' us)
  (hR1:∀w S,(gW P b F').holds w S→R1.holds w S)
  (hdo:∀i,∃h' l,cg P c K n c1 l S (aB c K (hp i)) f args' v S1 h'∧(∀r0 r2:Env,Q i r0→(∀j v,j < K→r0.val j=some v→r2.val (c+j)=some v)→F' (D8 r2 (c::l)) h')):ab P c (S++ [(n,.sem (ad L))]) c1 (S1++ [(n,.sem (ad (L.set k R1)))]) (.call f args) (.val v):=by
 have hg:∀X m,Heap.get (S++ [(n,X)]) m=if m=n then some X else Heap.get S m:=fun X m=>jv (.inr hnS)
 have hb2:a8 c (S++ [(n,.sem (ad L))])=true:=by
  clear hg hdo hnS
  induction S with
  |nil=>simp [a8,hnc]
  |cons z S ih=>
   obtain⟨m,d⟩:=z
   simp only [a8,Bool.and_eq_true] at hb
   show(Nat.blt m c && a8 c (S++ [(n,.sem (ad L))]))=true
   rw [hb.1,ih hb.2];rfl
 refine EC (n:=n) (k:=k) (L:=L) (R0:=R0) (R1:=R1) (F:=F) (F':=F') (hp:=hp) (by rw [hg];simp) hk hR0 hnc hb2 hF hK hroot hK0 hc1 hargs hR1 fun i=> ?_
 obtain⟨h',l,hm,hF'⟩:=hdo i
 obtain⟨c2,h2,d1,d2,d3,d4,d5,d6,d7⟩:=hm (ad (L.eraseIdx k))
 refine⟨c2,h2,l,h',?_,d2,d3,d4,d5,hF',d6,fun m x hx=> ?_⟩
 · rw [pX hnS,List.append_assoc];exact d1
 · rw [jv (.inr hnS1)] at hx
   split at hx
   · rename_i q;cases hx;exact .inl ⟨q,rfl⟩
   · exact .inr (d7 m x hx)
section
variable {P:Program}
theorem aQ (k m:Nat) (x:Chunk) (h:Heap):Heap.get ((k,x)::h) m=if k=m then some x else Heap.get h m:=by simp [Heap.get,cj]
def D9 (P:Program) (t:TypeId) (G:Nat→List Value→Prop) (wv:Value):aG where
 holds w S:=wv= .slice none 0 0∨∃b n c l cs,wv= .slice (some ⟨b,0,none⟩) n c∧G n l∧S b∧w.heap[b]? =some (.cells cs t (0,0))∧cs.toList.take l.length=l∧cs.size=c*P.cellsOf t∧n≤c∧b < w.heap.size
 up:=fun hS h=>h.imp id fun⟨b,n,c,l,cs,h1,h2,h3,h4⟩=>⟨b,n,c,l,cs,h1,h2,hS b h3,h4⟩
 loc:=fun hw h=>h.imp id fun⟨b,n,c,l,cs,h1,h2,h3,h4,h5,h6,h7,h8⟩=>by
  have e:=hw b h3
  refine⟨b,n,c,l,cs,h1,h2,h3,e.trans h4,h5,h6,h7,?_⟩
  rw [h4] at e
  exact(Array.getElem?_eq_some_iff.1 e).1
structure Ctx (n:Nat) (X:Value→Heap→Heap) (l0 l1:List Value) (t:TypeId) (rest:Heap):Prop where
 get:∀wv m4 m,Heap.get (X wv m4) m=Heap.get ((0,.cells (l0++wv::l1) t)::rest++m4) m
 pos:0 < n
 rest0:∀m x,Heap.get rest m=some x→m≠0∧m≠n∧x.cD n (n+1)=true
 away0:cL (cD 9 n (n+1)) l0=true
 away1:cL (cD 9 n (n+1)) l1=true
theorem gi {r:Env}{l0 l1 us:List Value}{v:Value} (h:aw r (l0++v::l1) us):∃u0 u u1,us=u0++u::u1∧aw r l0 u0∧Rel r v u∧aw r l1 u1:=by
 induction l0 generalizing us with
 |nil=>
  cases h with
  |cons h t=>exact⟨[],_,_,rfl,.nil,h,t⟩
 |cons x l0 ih=>
  cases h with
  |cons h t=>
   obtain⟨u0,u,u1,rfl,a,b,c⟩:=ih t
   exact⟨_::u0,u,u1,rfl,.cons h a,b,c⟩
theorem Ctx.look {n:Nat}{X:Value→Heap→Heap}{l0 l1:List Value}{t:TypeId}{rest:Heap} (c:Ctx n X l0 l1 t rest) {wv:Value}{z:Chunk}{m:Nat}{x:Chunk} (h:Heap.get (X wv [(n,z)]) m=some x):
  (m=0∧x= .cells (l0++wv::l1) t)∨(m≠0∧m≠n∧rest.get m=some x)∨(m=n∧x=z):=by
 rw [c.get,List.cons_append,aQ] at h
 by_cases q:0=m
 · subst q;rw [if_pos rfl] at h;cases h;exact .inl ⟨rfl,rfl⟩
 · rw [if_neg q,Heap.get_append] at h
   cases e:Heap.get rest m with
   |some y=>
    rw [e] at h
    obtain⟨q1,q2,_⟩:=c.rest0 m _ e
    exact .inr (.inl ⟨q1,q2,h⟩)
   |none=>
    rw [e] at h
    simp only [aQ] at h
    by_cases q2:n=m
    · subst q2;rw [if_pos rfl] at h;cases h;exact .inr (.inr ⟨rfl,rfl⟩)
    · rw [if_neg q2] at h;simp [Heap.get] at h
theorem Ctx.root {n:Nat}{X:Value→Heap→Heap}{l0 l1:List Value}{t:TypeId}{rest:Heap} (c:Ctx n X l0 l1 t rest) (wv:Value) (m4:Heap):Heap.get (X wv m4) 0=some (.cells (l0++wv::l1) t):=by
 rw [c.get,List.cons_append,aQ];simp
theorem Ctx.none {n:Nat}{X:Value→Heap→Heap}{l0 l1:List Value}{t:TypeId}{rest:Heap} (c:Ctx n X l0 l1 t rest) {wv:Value}{m:Nat}{x:Chunk} (h:Heap.get (X wv []) m=some x):
  (m=0∧x= .cells (l0++wv::l1) t)∨(m≠0∧m≠n∧rest.get m=some x):=by
 rw [c.get,List.cons_append,aQ,List.append_nil] at h
 by_cases q:0=m
 · subst q;rw [if_pos rfl] at h;cases h;exact .inl ⟨rfl,rfl⟩
 · rw [if_neg q] at h
   obtain⟨q1,q2,_⟩:=c.rest0 m _ h
   exact .inr ⟨q1,q2,h⟩
theorem Ctx.mem {n:Nat}{X:Value→Heap→Heap}{l0 l1:List Value}{t:TypeId}{rest:Heap} (c:Ctx n X l0 l1 t rest) (wv:Value) (z:Chunk):Heap.get (X wv [(n,z)]) n=some z:=by
 have hp:=c.pos
 have hn0:¬0=n:=by omega
 rw [c.get,List.cons_append,aQ,if_neg hn0,Heap.get_append]
 cases e:Heap.get rest n with
 |some y=>exact absurd rfl (c.rest0 n _ e).2.1
 |none=>simp [aQ]
theorem Ctx.other {n:Nat}{X:Value→Heap→Heap}{l0 l1:List Value}{t:TypeId}{rest:Heap} (c:Ctx n X l0 l1 t rest) {m:Nat}{x:Chunk} (h:rest.get m=some x) (wv:Value) (m4:Heap):Heap.get (X wv m4) m=some x:=by
 have hm0:¬0=m:=fun q=>(c.rest0 m x h).1 q.symm
 rw [c.get,List.cons_append,aQ,if_neg hm0,Heap.get_append,h]
def Env.with (r:Env) (n:Nat) (b:Option Nat) (c:Nat) (v:Option Value):Env:=⟨fun m=>if m=n then b else r.blk m,fun m=>if m=n then c else r.cap m,fun m=>if m=n then v else r.val m⟩
theorem Mt {r:Env}{n:Nat} (b:Option Nat) (c:Nat) (v:Option Value):(r.cut n (n+1)).Le (r.with n b c v):=by
 refine⟨fun m x e=> ?_,fun m x e=> ?_,fun m x e=> ?_⟩
 · simp only [Env.cut] at e
   split at e
   · cases e
   · rename_i q
     have:m≠n:=fun z=>q (b8.2 ⟨by omega,by omega⟩)
     simp [Env.with,this,e]
 · simp only [Env.cut] at e
   split at e
   · cases e
   · rename_i q
     have:m≠n:=fun z=>q (b8.2 ⟨by omega,by omega⟩)
     simp [Env.with,this,Env.cut]
 · simp only [Env.cut] at e
   split at e
   · cases e
   · rename_i q
     have:m≠n:=fun z=>q (b8.2 ⟨by omega,by omega⟩)
     simp [Env.with,this,e]
theorem zc (n m:Nat):inside n (n+1) m=true ↔ m=n:=by rw [b8];omega
def iX (ow:Nat→Option Nat) (n:Nat) (b4:Option Nat):Nat→Option Nat:=fun x=>if some x=b4 then some n else gx n (n+1) ow x
theorem tR {r:Env}{ow:Nat→Option Nat}{h h':Heap}{w:World}{n:Nat}{b:Option Nat}{c:Nat}{v:Option Value}{b4:Option Nat} (hs:Sat P r ow h w) (hb4:∀x,b4=some x→ow x=some n)
  (hkn:b4≠none→b≠none∨v≠none)
  (h1:∀m x,h'.get m=some x→m≠n→x.sat P (r.with n b c v) (iX ow n b4) w m) (h2:∀x,h'.get n=some x→x.sat P (r.with n b c v) (iX ow n b4) w n):Sat P (r.with n b c v) (iX ow n b4) h' w:=by
 refine⟨fun m x e=> ?_,fun x m e=> ?_,fun x m e=> ?_⟩
 · by_cases q:m=n
   · subst q;exact h2 x e
   · exact h1 m x e q
 · unfold iX at e
   split at e
   · rename_i q;cases e
     exact hs.bound x _ (hb4 x q.symm)
   · exact hs.bound x m (dM.1 e).1
 · unfold iX at e
   split at e
   · rename_i q;cases e
     have:=hkn (by rw [←q];simp)
     simp only [Env.with,if_true]
     exact this
   · obtain⟨e1,e2⟩:=dM.1 e
     have hm:m≠n:=fun q=>by rw [(zc n m).2 q] at e2;cases e2
     simp only [Env.with,hm,if_false]
     exact hs.known x m e1
theorem j0 {r:Env}{ow:Nat→Option Nat}{w:World}{n m:Nat}{b:Option Nat}{c:Nat}{v:Option Value}{b4:Option Nat}{x:Chunk} (hm:m≠n) (hb4:∀y,b4=some y→ow y=some n) (ha:x.tX P n (n+1) m) (hs:x.sat P r ow w m):
  x.sat P (r.with n b c v) (iX ow n b4) w m:=by
 have h:=ha r ow w hs
 refine Chunk.cR (fun _ _=>rfl) (fun y=> ?_) (Chunk.dX (Mt b c v) h)
 unfold iX
 by_cases q:some y=b4
 · rw [if_pos q]
   constructor
   · intro z;cases z;exact absurd rfl hm
   · intro z
     have:=hb4 y q.symm
     rw [(dM.1 z).1] at this
     cases this;exact absurd rfl hm
 · rw [if_neg q]
theorem jl {n m:Nat} (h:m≠n):inside n (n+1) m=false:=by
 cases e:inside n (n+1) m with
 |false=>rfl
 |true=>exact absurd ((zc n m).1 e) h
def Self (G:Nat→List Value→Prop):Prop:=∀n l,G n l→(∀r,aw r l l)∧∀r l',aw r l l'→l'=l
variable {n:Nat}{X:Value→Heap→Heap}{l0 l1:List Value}{t t4:TypeId}{rest:Heap}{G:Nat→List Value→Prop}{w:World}{r:Env}{ow:Nat→Option Nat}
theorem Ix (c:Ctx n X l0 l1 t rest) (hG:Self G) {wv:Value} (hv:r.val n=some wv) (hs:Sat P r ow (X (.chan (some n)) [(n,.sem (D9 P t4 G wv))]) w):
  Sat P r ow (X (.slice none 0 0) []) w∨∃k l r2 ow2,G k l∧r2.blk 0=r.blk 0∧(∀b,ow2 b≠none→ow b≠none)∧Sat P r2 ow2 (X (.slice (some ⟨n,0,none⟩) k 0) [(n,.cells l t4)]) w:=by
 have hn0:(0:Nat)≠n:=by have:=c.pos;omega
 have h0:=hs.chunk 0 _ (c.root _ _)
 have h4:=hs.chunk n _ (c.mem _ _)
 obtain⟨b0,cs0,a1,a2,a3,a4,a5,a6⟩:=h0
 rcases h4 with rfl|⟨b,k,cp,l,cs,rfl,g1,g2,g3,g4,g5,g6,g7⟩
 · left
   refine⟨fun m x e=> ?_,hs.bound,hs.known⟩
   rcases c.none e with⟨rfl,rfl⟩|⟨q1,q2,q3⟩
   · refine⟨b0,cs0,a1,a2,a3,?_,by simpa using a5,a6⟩
     obtain⟨u0,u,u1,e1,e2,e3,e4⟩:=gi a4
     have:(l0++Value.slice none 0 0::l1).length=(l0++Value.chan (some n)::l1).length:=by simp
     rw [this,e1]
     refine e2.append (.cons ?_ e4)
     cases e3 with
     |opq h=>rw [hv] at h;cases h;exact .sliceNil
   · exact hs.chunk m x (c.other q3 _ _)
 · right
   have ho:ow b=some n:=g2
   have hb4:∀y,some b=some y→ow y=some n:=fun y e=>by cases e;exact ho
   refine⟨k,l,r.with n (some b) cp none,iX ow n (some b),g1,by simp [Env.with,hn0],fun y hy=> ?_,tR (b4:=some b) hs hb4 (fun _=> .inl (by simp)) (fun m x e q=> ?_) fun x e=> ?_⟩
   · unfold iX at hy
     split at hy
     · rename_i q;cases q;rw [ho];simp
     · intro z;apply hy;unfold gx;rw [z]
   · rcases c.look e with⟨rfl,rfl⟩|⟨q1,q2,q3⟩|⟨q1,q2⟩
     · have hA:Chunk.sat P (r.with n (some b) cp none) (iX ow n (some b)) w 0 (.cells (l0++Value.chan none::l1) t):=by
        refine j0 q hb4 (Chunk.eC (jl q) ?_) (?_:Chunk.sat P r ow w 0 (.cells (l0++Value.chan none::l1) t))
        · show cL (cD 9 n (n+1)) (l0++Value.chan none::l1)=true
          have:∀(a b:List Value),cL (cD 9 n (n+1)) a=true→cL (cD 9 n (n+1)) b=true→cL (cD 9 n (n+1)) (a++b)=true:=by
           intro a b ha hb
           induction a with
           |nil=>exact hb
           |cons z a ih=>simp only [cL,Bool.and_eq_true,List.cons_append] at ha ⊢;exact⟨ha.1,ih ha.2⟩
          refine this _ _ c.away0 ?_
          show(cD 9 n (n+1) (.chan none) && cL (cD 9 n (n+1)) l1)=true
          rw [c.away1];rfl
        · refine⟨b0,cs0,a1,a2,a3,?_,by simpa using a5,a6⟩
          obtain⟨u0,u,u1,e1,e2,e3,e4⟩:=gi a4
          have:(l0++Value.chan none::l1).length=(l0++Value.chan (some n)::l1).length:=by simp
          rw [this,e1]
          exact e2.append (.cons .any e4)
       obtain⟨b0',cs0',f1,f2,f3,f4,f5,f6⟩:=hA
       have hb0:b0'=b0:=by
        have:(r.with n (some b) cp none).blk 0=some b0:=by simp [Env.with,hn0,a1]
        rw [this] at f1;cases f1;rfl
       subst hb0
       rw [a3] at f3;cases f3
       refine⟨b0',cs0,f1,f2,a3,?_,by simpa using f5,f6⟩
       obtain⟨u0,u,u1,e1,e2,e3,e4⟩:=gi a4
       have len1:(l0++Value.slice (some ⟨n,0,none⟩) k 0::l1).length=(l0++Value.chan (some n)::l1).length:=by simp
       have len2:(l0++Value.chan none::l1).length=(l0++Value.chan (some n)::l1).length:=by simp
       rw [len2,e1] at f4
       rw [len1,e1]
       obtain⟨v0,v,v1,z1,z2,z3,z4⟩:=gi f4
       have hl0:u0.length=v0.length:=by rw [←e2.length,z2.length]
       have:=List.append_inj z1 hl0
       obtain⟨rfl,h2⟩:=this
       cases h2
       refine z2.append (.cons ?_ z4)
       cases e3 with
       |opq h=>
        rw [hv] at h;cases h
        exact .slice (by simp [Env.with]) (.inl rfl) g6 (fun _=>⟨rfl,rfl,by simp [Env.with]⟩) (fun h=>by cases h)
     · exact j0 q2 hb4 (Chunk.eC (jl q2) (c.rest0 m x q3).2.2) (hs.chunk m x (c.other q3 _ _))
     · exact absurd q1 q
   · have:=c.mem (.slice (some ⟨n,0,none⟩) k 0) (.cells l t4)
     rw [this] at e;cases e
     refine⟨b,cs,by simp [Env.with],by simp [iX],g3,?_,?_,by simp [Env.with];exact g5⟩
     · rw [g4];exact(hG k l g1).1 _
     · have:=congrArg List.length g4
       simp only [List.length_take,Array.length_toList] at this
       omega
theorem sM (c:Ctx n X l0 l1 t rest) {z:Chunk} (hz:∀(r:Env) (ow:Nat→Option Nat),r.val n=some (.slice none 0 0)→z.sat P r ow w n) (hs:Sat P r ow (X (.slice none 0 0) []) w):
  ∃r2 ow2,r2.blk 0=r.blk 0∧(∀b,ow2 b≠none→ow b≠none)∧r2.val n=some (.slice none 0 0)∧(∀m,m≠n→r2.val m=r.val m)∧Sat P r2 ow2 (X (.chan (some n)) [(n,z)]) w:=by
 have hn0:(0:Nat)≠n:=by have:=c.pos;omega
 obtain⟨b0,cs0,a1,a2,a3,a4,a5,a6⟩:=hs.chunk 0 _ (c.root _ _)
 have hb4:∀y,(none:Option Nat)=some y→ow y=some n:=fun y e=>by cases e
 refine⟨r.with n none 0 (some (.slice none 0 0)),iX ow n none,by simp [Env.with,hn0],fun y hy=> ?_,by simp [Env.with],fun m hm=>by simp [Env.with,hm],tR (b4:=none) hs hb4 (fun h=>absurd rfl h) (fun m x e q=> ?_) fun x e=> ?_⟩
 · unfold iX at hy
   split at hy
   · rename_i q;cases q
   · intro z;apply hy;unfold gx;rw [z]
 · rcases c.look e with⟨rfl,rfl⟩|⟨q1,q2,q3⟩|⟨q1,q2⟩
   · have hA:Chunk.sat P (r.with n none 0 (some (.slice none 0 0))) (iX ow n none) w 0 (.cells (l0++Value.slice none 0 0::l1) t):=by
      refine j0 q hb4 (Chunk.eC (jl q) ?_) ⟨b0,cs0,a1,a2,a3,a4,a5,a6⟩
      show cL (cD 9 n (n+1)) (l0++Value.slice none 0 0::l1)=true
      have:∀(a b:List Value),cL (cD 9 n (n+1)) a=true→cL (cD 9 n (n+1)) b=true→cL (cD 9 n (n+1)) (a++b)=true:=by
       intro a b ha hb
       induction a with
       |nil=>exact hb
       |cons z a ih=>simp only [cL,Bool.and_eq_true,List.cons_append] at ha ⊢;exact⟨ha.1,ih ha.2⟩
      refine this _ _ c.away0 ?_
      show(cD 9 n (n+1) (.slice none 0 0) && cL (cD 9 n (n+1)) l1)=true
      rw [c.away1];rfl
     obtain⟨b0',cs0',f1,f2,f3,f4,f5,f6⟩:=hA
     refine⟨b0',cs0',f1,f2,f3,?_,by simpa using f5,f6⟩
     have len1:(l0++Value.chan (some n)::l1).length=(l0++Value.slice none 0 0::l1).length:=by simp
     rw [len1]
     obtain⟨u0,u,u1,e1,e2,e3,e4⟩:=gi f4
     rw [e1]
     refine e2.append (.cons ?_ e4)
     cases e3
     exact .opq (by simp [Env.with])
   · exact j0 q2 hb4 (Chunk.eC (jl q2) (c.rest0 m x q3).2.2) (hs.chunk m x (c.other q3 _ _))
   · exact absurd q1 q
 · have:=c.mem (.chan (some n)) z
   rw [this] at e;cases e
   exact hz _ _ (by simp [Env.with])
theorem Lj (c:Ctx n X l0 l1 t rest) (hG:Self G) {k:Nat}{l:List Value} (hg:G k l) (hs:Sat P r ow (X (.slice (some ⟨n,0,none⟩) k 0) [(n,.cells l t4)]) w):
  ∃wv r2 ow2,r2.blk 0=r.blk 0∧(∀b,ow2 b≠none→ow b≠none)∧r2.val n=some wv∧(∀m,m≠n→r2.val m=r.val m)∧Sat P r2 ow2 (X (.chan (some n)) [(n,.sem (D9 P t4 G wv))]) w:=by
 have hn0:(0:Nat)≠n:=by have:=c.pos;omega
 obtain⟨b0,cs0,a1,a2,a3,a4,a5,a6⟩:=hs.chunk 0 _ (c.root _ _)
 obtain⟨b,cs,g1,g2,g3,g4,g5,g6⟩:=hs.chunk n _ (c.mem _ _)
 have hb4:∀y,some b=some y→ow y=some n:=fun y e=>by cases e;exact g2
 obtain⟨u0,u,u1,e1,e2,e3,e4⟩:=gi a4
 have hu:∃cp,u= .slice (some ⟨b,0,none⟩) k cp∧k≤cp∧cp=r.cap n:=by
  cases e3 with
  |slice h ho hl hz h2=>
   rw [g1] at h;cases h
   obtain⟨q1,rfl,q3⟩:=hz rfl
   exact⟨_,rfl,hl,q3⟩
 obtain⟨cp,rfl,hk,rfl⟩:=hu
 refine⟨.slice (some ⟨b,0,none⟩) k (r.cap n),r.with n none 0 (some (.slice (some ⟨b,0,none⟩) k (r.cap n))),iX ow n (some b),by simp [Env.with,hn0],fun y hy=> ?_,by simp [Env.with],fun m hm=>by simp [Env.with,hm],
  tR (b4:=some b) hs hb4 (fun _=> .inr (by simp)) (fun m x e q=> ?_) fun x e=> ?_⟩
 · unfold iX at hy
   split at hy
   · rename_i q;cases q;rw [g2];simp
   · intro z;apply hy;unfold gx;rw [z]
 · rcases c.look e with⟨rfl,rfl⟩|⟨q1,q2,q3⟩|⟨q1,q2⟩
   · have hA:Chunk.sat P (r.with n none 0 (some (.slice (some ⟨b,0,none⟩) k (r.cap n)))) (iX ow n (some b)) w 0 (.cells (l0++Value.chan none::l1) t):=by
      refine j0 q hb4 (Chunk.eC (jl q) ?_) (?_:Chunk.sat P r ow w 0 (.cells (l0++Value.chan none::l1) t))
      · show cL (cD 9 n (n+1)) (l0++Value.chan none::l1)=true
        have:∀(a b:List Value),cL (cD 9 n (n+1)) a=true→cL (cD 9 n (n+1)) b=true→cL (cD 9 n (n+1)) (a++b)=true:=by
         intro a b ha hb
         induction a with
         |nil=>exact hb
         |cons z a ih=>simp only [cL,Bool.and_eq_true,List.cons_append] at ha ⊢;exact⟨ha.1,ih ha.2⟩
        refine this _ _ c.away0 ?_
        show(cD 9 n (n+1) (.chan none) && cL (cD 9 n (n+1)) l1)=true
        rw [c.away1];rfl
      · refine⟨b0,cs0,a1,a2,a3,?_,by simpa using a5,a6⟩
        have:(l0++Value.chan none::l1).length=(l0++Value.slice (some ⟨n,0,none⟩) k 0::l1).length:=by simp
        rw [this,e1]
        exact e2.append (.cons .any e4)
     obtain⟨b0',cs0',f1,f2,f3,f4,f5,f6⟩:=hA
     have hb0:b0'=b0:=by
      have:(r.with n none 0 (some (.slice (some ⟨b,0,none⟩) k (r.cap n)))).blk 0=some b0:=by simp [Env.with,hn0,a1]
      rw [this] at f1;cases f1;rfl
     subst hb0
     rw [a3] at f3;cases f3
     refine⟨b0',cs0,f1,f2,a3,?_,by simpa using f5,f6⟩
     have len1:(l0++Value.chan (some n)::l1).length=(l0++Value.slice (some ⟨n,0,none⟩) k 0::l1).length:=by simp
     have len2:(l0++Value.chan none::l1).length=(l0++Value.slice (some ⟨n,0,none⟩) k 0::l1).length:=by simp
     rw [len2,e1] at f4
     rw [len1,e1]
     obtain⟨v0,v,v1,z1,z2,z3,z4⟩:=gi f4
     have hl0:u0.length=v0.length:=by rw [←e2.length,z2.length]
     obtain⟨rfl,h2⟩:=List.append_inj z1 hl0
     cases h2
     exact z2.append (.cons (.opq (by simp [Env.with])) z4)
   · exact j0 q2 hb4 (Chunk.eC (jl q2) (c.rest0 m x q3).2.2) (hs.chunk m x (c.other q3 _ _))
   · exact absurd q1 q
 · have:=c.mem (.chan (some n)) (.sem (D9 P t4 G (.slice (some ⟨b,0,none⟩) k (r.cap n))))
   rw [this] at e;cases e
   refine .inr ⟨b,k,r.cap n,l,cs,rfl,hg,by simp [iX],g3,(hG k l hg).2 _ _ g4,g6,hk,hs.bound b n g2⟩
end
end Go.Sx
