/- TxnNothing: the symbolic executor. No condition. -/
import Derived.Test.YtalanookmohdeaaGreatDoorM21
import Derived.Test.YtalanookmohdeaaGreatDoorM19
import Derived.Test.YtalanookmohdeaaGreatDoorM7
namespace Go.Sx
variable {P:Program}{I J:Type}
def oW (P:Program) (c0:Nat) (h0:Heap) (c1:Nat) (h1:I→Heap) (f:FuncId) (args:List Value) (v:Value):Prop:=
 c0≤c1∧∀r ow w,Sat P r ow h0 w→bF r c0 c1→∀us:Array Value,aw r args us.toList→Calls P f us w fun e w'=>∃i r' ow' u,e= .returned u∧aN P r ow w (bb c0 h0) r' ow' w' (bb c1 (h1 i))∧Rel r' v u
theorem Fu {f:FuncId}{fn:Func}{body:Code}{t:Nat} (hf:P.funcs[f]? =some fn) (hb:fn.body=some body) (hr:fn.results= #[.tmp t]) {c0 c1:Nat}{h0:Heap}{h1:I→Heap}{args T2:List Value}{v:Value}
  (hd:dh P c0 h0 c1 h1 body (args++List.replicate (fn.ntmps - args.length) undef) .ret (fun _=>T2)) (hv:T2.getD t undef=v):oW P c0 h0 c1 h1 f args v:=by
 refine⟨hd.1,fun r ow w hs hfr us hus=> ?_⟩
 have hwp:=hd.2 r ow w hs hfr { tmps:=us++Array.replicate (fn.ntmps - us.size) undef,defers:= []} (sF hus) rfl
 refine calls_of_wp hf hb (wp_mono hwp ?_)
 intro e' a' w' ⟨i,hex,hd',r',ow',hp,ha'⟩
 cases e' <;> simp only [cO] at hex
 have hx:iY P T2 fn.results.toList [] (bb c1 (h1 i))=some ([T2.getD t undef],bb c1 (h1 i)):=by rw [hr];rfl
 obtain⟨u,g1,g2⟩:=(lI hx).2 af r' ow' w' a'.tmps hp.sat ha'
 rw [hv] at g2
 exact⟨hd',u,g1,i,r',ow',u,rfl,hp,g2⟩
theorem Am {f:FuncId}{fn:Func}{body:Code}{t1 t2:Nat} (hf:P.funcs[f]? =some fn) (hb:fn.body=some body) (hr:fn.results= #[.tmp t1,.tmp t2]) {c0 c1:Nat}{h0:Heap}{h1:I→Heap}{args T2:List Value}{v1 v2:Value}
  (hd:dh P c0 h0 c1 h1 body (args++List.replicate (fn.ntmps - args.length) undef) .ret (fun _=>T2)) (hv1:T2.getD t1 undef=v1) (hv2:T2.getD t2 undef=v2):oW P c0 h0 c1 h1 f args (.tuple ⟨[v1,v2]⟩):=by
 refine⟨hd.1,fun r ow w hs hfr us hus=> ?_⟩
 have hwp:=hd.2 r ow w hs hfr { tmps:=us++Array.replicate (fn.ntmps - us.size) undef,defers:= []} (sF hus) rfl
 refine calls_of_wp hf hb (wp_mono hwp ?_)
 intro e' a' w' ⟨i,hex,hd',r',ow',hp,ha'⟩
 cases e' <;> simp only [cO] at hex
 have hx:iY P T2 fn.results.toList [] (bb c1 (h1 i))=some ([T2.getD t1 undef,T2.getD t2 undef],bb c1 (h1 i)):=by rw [hr];rfl
 obtain⟨u,g1,g2⟩:=(lI hx).2 af r' ow' w' a'.tmps hp.sat ha'
 rw [hv1,hv2] at g2
 exact⟨hd',u,g1,i,r',ow',u,rfl,hp,g2⟩
theorem ux {rec:Rec} (hr:gC P rec) {ops:Array Oper}:∀(l:List Oper) (i:Nat) (T T':List Value) (d:bj) (s s':St),(∃m,ops.toList.drop i=l++m)→ee P rec ops.toList l T d s=some (T',s')→
  (aW s'.V→aW s.V)∧(aW s'.V→∀(r:Env) (ow:Nat→Option Nat) (w:World) (a:Act),Sat P r ow s.h w→bF r s.c s'.c→aw r T a.tmps.toList→a.defers= []→∀(Q:Exit→Act→World→Prop),
   (∀r' ow' a' w',aN P r ow w s r' ow' w' s'→aw r' T' a'.tmps.toList→a'.defers= []→wpOps P ops Q (List.range' (i+l.length) (ops.size - (i+l.length))) a' w')→wpOps P ops Q (List.range' i (ops.size - i)) a w)
 | [],i,T,T',d,s,s',hl,h=>by
  obtain⟨rfl,rfl⟩:=au (d:=d) h
  refine⟨id,fun hV r ow w a hs hf ha hd Q hQ=> ?_⟩
  exact hQ r ow a w (aN.calm hs (Calm.refl _)) ha hd
 |o::l,i,T,T',d,s,s',⟨m,hl⟩,h=>by
  obtain⟨T1,s1,h1,h2⟩:=bind_some h
  have hi:ops[i]? =some o:=by
   have:=congrArg (·[0]?) hl
   simpa using this
  have hl':ops.toList.drop (i+1)=l++m:=by
   have:=congrArg (List.drop 1) hl
   simpa [List.drop_drop] using this
  have hlt:i < ops.size:=by
   rcases Nat.lt_or_ge i ops.size with q|q
   · exact q
   · rw [Array.getElem?_eq_none q] at hi;cases hi
  have l1:s.c≤s1.c:=aU.jk hr.mono _ _ _ d s _ s1 h1
  have l2:s1.c≤s'.c:=aU.ee hr.mono _ _ _ d s1 _ s' h2
  obtain⟨g1,g2⟩:=ur hr hi h1
  obtain⟨g3,g4⟩:=ux hr l (i+1) T1 T' d s1 s' ⟨m,hl'⟩ h2
  refine⟨fun hV=>g1 (g3 hV),fun hV r ow w a hs hf ha hd Q hQ=> ?_⟩
  have hrange:List.range' i (ops.size - i)=i::List.range' (i+1) (ops.size - (i+1)):=by
   have:ops.size - i=(ops.size - (i+1))+1:=by omega
   rw [this,List.range'_succ]
  rw [hrange,wpOps_cons]
  refine g2 (g3 hV) r ow w a hs (hf.sub (Nat.le_refl _) l2) ha _ _ fun r1 ow1 u v w1 hp hu he=> ?_
  subst he
  refine g4 hV r1 ow1 w1 _ hp.sat (hf.after hp.new l1) (qx (ha.mono hp.le) o.dst hu) (by rw [put_defers];exact hd) Q fun r' ow' a' w' hp' ha' hd'=> ?_
  have:=hQ r' ow' a' w' (hp.trans hp') ha' hd'
  rwa [show i+(o::l).length=i+1+l.length by simp;omega] at this
def l4:Option (List Value×St)→Option (List Value×Nat×Heap×List VC)
 |some (T,s)=>some (T,s.c,s.h,s.V)
 |none=>none
theorem sS {o:Option (List Value×St)}{T:List Value}{c:Nat}{h:Heap}{L:List VC} (e:l4 o=some (T,c,h,L)):∃s,o=some (T,s)∧s.c=c∧s.h=h∧s.V=L:=by
 match o,e with
 |some (T',s),e=>
  simp only [l4,Option.some.injEq,Prod.mk.injEq] at e
  obtain⟨rfl,rfl,rfl,rfl⟩:=e
  exact⟨s,rfl,rfl,rfl,rfl⟩
def sq:Option (jm×St)→Option (FuncId×List Value×Nat×Heap×List VC)
 |some (.call f asZ,s)=>some (f,asZ,s.c,s.h,s.V)
 |_=>none
theorem uK (hm:P.follows .mixedOrders=true) {C:aP} (hC:cC P C) {n:Nat}{id:Nat}{ops:Array Oper}{A B:List Oper}{o:Oper} (hops:ops.toList=A++o::B) (hg:o.guard=none) {c0 c2 c3:Nat}{h0:Heap}{h2 h3:I→Heap}{T T1 T3:List Value}{f:FuncId}{asZ:List Value}{v:Value}
  (hA:l4 (ee P (gn P C n) ops.toList A T [] (bb c0 h0))=some (T1,c0,h0,[])) (ho:sq (c9 P T1 o [] (bb c0 h0))=some (f,asZ,c0,h0,[])) (hc:oW P c0 h0 c2 h2 f asZ v)
  (hB:∀i,l4 (ee P (gn P C n) ops.toList B (jj T1 o.dst v) [] (bb c2 (h2 i)))=some (T3,c3,h3 i,[])) (h23:c2≤c3):dh P c0 h0 c3 h3 (.region id ops false) T .normal (fun _=>T3):=by
 have hr:=so hm hC n
 obtain⟨sA,a1,a2,a3,a4⟩:=sS hA
 refine⟨Nat.le_trans hc.1 h23,fun r ow w hs hf a ha hd=>wp_region ?_⟩
 obtain⟨_,gA⟩:=ux hr A 0 T T1 [] (bb c0 h0) sA ⟨o::B,by simpa using hops⟩ a1
 rw [List.range_eq_range']
 refine gA (by rw [a4];exact af) r ow w a hs (by rw [a2];exact hf.sub (Nat.le_refl _) (Nat.le_trans hc.1 h23)) ha hd _ fun r1 ow1 x1 w1 hp1 hx1 hd1=> ?_
 have hlen:ops.size=A.length+(B.length+1):=by rw [←Array.length_toList,hops];simp
 have hoi:ops[A.length]? =some o:=by rw [←Array.getElem?_toList,hops];simp
 rw [Nat.zero_add,show ops.size - A.length=B.length+1 by omega,List.range'_succ,wpOps_cons]
 match e1:c9 P T1 o [] (bb c0 h0),ho with
 |some (.call f' as',s1),ho=>
  simp only [sq,Option.some.injEq,Prod.mk.injEq] at ho
  obtain⟨rfl,rfl,b1,b2,b3⟩:=ho
  obtain⟨_,g2⟩:=yz (P:=P) T1 o [] (bb c0 h0) _ s1 e1
  have hs1:Sat P r1 ow1 h0 w1:=by have:=hp1.sat;rw [a3] at this;exact this
  have hf1:bF r1 c0 c3:=by
   have:=hf.after hp1.new hp1.mono
   rw [a2] at this;exact this
  obtain⟨r2,ow2,nn,w2,q1,q2,q3⟩:=g2 (by rw [b3];exact af) r1 ow1 w1 _ hs1 (by rw [b1];exact hf1.sub (Nat.le_refl _) (Nat.le_trans hc.1 h23)) ⟨x1,hx1,rfl⟩
  unfold wpOp
  have hwant:Region.wanted o (yielded ops x1.tmps)=true:=by simp [Region.wanted,hg]
  simp only [hoi,hwant,if_true]
  left
  unfold Oper.wp
  rw [q1]
  cases nn <;> simp only [pJ] at q3
  obtain⟨rfl,q4⟩:=q3
  have hs2:Sat P r2 ow2 h0 w2:=by have:=q2.sat;rw [b2] at this;exact this
  have hf2:bF r2 c0 c3:=by
   have:=hf1.after q2.new (by have:=q2.mono;exact this)
   rw [b1] at this;exact this
  refine Calls.mono (hc.2 r2 ow2 w2 hs2 (hf2.sub (Nat.le_refl _) h23) _ q4) fun e w3 ⟨i,r3,ow3,u,he,hp3,hu⟩=> ?_
  subst he
  obtain⟨sB,c1',c2',c3',c4'⟩:=sS (hB i)
  have hl':ops.toList.drop (A.length+1)=B:=by rw [hops,show A.length+1=A.length+1 from rfl,←List.drop_drop,List.drop_left];rfl
  obtain⟨_,gB⟩:=mW hr B (A.length+1) (jj T1 o.dst v) T3 [] (bb c2 (h2 i)) sB hl' c1'
  have hpost2:aN P r ow w (bb c0 h0) r2 ow2 w2 (bb c0 h0):=by
   have k1:aN P r ow w (bb c0 h0) r1 ow1 w1 (bb c0 h0):=⟨hp1.le,hs1,hp1.frame,by have:=hp1.new;rw [a2] at this;exact this,Nat.le_refl _,by have:=hp1.own;rw [a2] at this;exact this⟩
   have k2:aN P r1 ow1 w1 (bb c0 h0) r2 ow2 w2 (bb c0 h0):=⟨q2.le,hs2,q2.frame,by have:=q2.new;rw [b1] at this;exact this,Nat.le_refl _,by have:=q2.own;rw [b1] at this;exact this⟩
   exact k1.trans k2
  have hb:=gB (by rw [c4'];exact af) r3 ow3 w3 (x1.put o.dst u) hp3.sat (by rw [c2'];exact iT hf2 hp3.new hc.1 (Nat.le_refl _)) (qx (hx1.mono (q2.le.trans hp3.le)) o.dst hu) (by rw [put_defers];exact hd1)
  have hsz:ops.size - (A.length+1)=B.length:=by omega
  rw [hsz] at hb
  refine hb _ fun r4 ow4 x4 w4 hp4 hx4 hd4=>⟨i,trivial,hd4,r4,ow4,?_,hx4⟩
  have k4:=(hpost2.trans hp3).trans hp4
  exact⟨k4.le,by have:=k4.sat;rw [c3'] at this;exact this,k4.frame,by have:=k4.new;rw [c2'] at this;exact this,Nat.le_trans hc.1 h23,by have:=k4.own;rw [c2'] at this;exact this⟩
theorem dh.Rf {ρ:Names}{c0 c1 c2:Nat}{h0:Heap}{H:I→Heap}{h':J→Heap}{k:Code}{T:List Value}{Tf:I→List Value}{T':J→List Value}{e:bU} (g:I→J) (h:dh P c0 h0 c2 H k T e Tf) (hρ:ρ.ok c0 c1=true) (h21:c2≤c1) (R:∀i,jJ ρ c0 c1 (H i) (Tf i) (h' (g i)) (T' (g i))):dh P c0 h0 c1 h' k T e T':=by
 have h01:c0≤c1:=Nat.le_trans h.1 h21
 refine⟨h01,fun r ow w hs hf a ha hd=> ?_⟩
 refine wp_mono (h.2 r ow w hs (hf.sub (Nat.le_refl _) h21) a ha hd) ?_
 intro e' a' w' ⟨i,hex,hd',r',ow',hp,ha'⟩
 obtain⟨hq,_⟩:=hp.bC hρ h01 (Nat.le_refl _) h21 hf (R i).heap
 exact⟨g i,hex,hd',_,_,hq,(R i).tmps _ _ _ (fun n m h=>jc hρ (Nat.le_refl _) r' h) ha'⟩
theorem It {f:FuncId}{k1:Nat}{h0:Heap}{h1:I→Heap}{args0 args:List Value}{v0 v:Value}{l:List Nat}{c c1:Nat}{H:Heap}{H':I→Heap} (hd:oW P l.length h0 k1 h1 f args0 v0) (hk:cu l=true) (hr:∀n∈l,¬(c≤n∧n < c+(k1 - l.length))) (hc:c+(k1 - l.length)≤c1)
  (hin:∀i x,h0.get i=some x→∃n y,back l n=some i∧H.get n=some y∧az (y.bC (back l)) x)
  (hargs:∀r r2 us,(∀n m,back l n=some m→r2.blk m=r.blk n∧r2.cap m=r.cap n∧r2.val m=r.val n)→aw r args us→aw r2 args0 us)
  (hout:∀j n x,(H' j).get n=some x→(∃i y,(h1 j).get i=some y∧fwd l c k1 i=some n∧az (y.bC (fwd l c k1)) x)∨(back l n=none∧¬(c≤n∧n < c+(k1 - l.length))∧H.get n=some x))
  (hv:∀r r2 u,(∀n m,fwd l c k1 n=some m→r2.blk m=r.blk n∧r2.cap m=r.cap n∧r2.val m=r.val n)→Rel r v0 u→Rel r2 v u):oW P c H c1 H' f args v:=by
 refine⟨by omega,fun r ow w hs hf us hus=> ?_⟩
 have hl:l.length≤k1:=hd.1
 have hf':bF r c (c+(k1 - l.length)):=hf.sub (Nat.le_refl _) hc
 have hfa:bF (r.at l c) l.length k1:=fun n h1 h2=>by
  simp only [Env.at,lU (c:=c) h1]
  exact hf' _ (by omega) (by omega)
 have hua:=hargs r (r.at l c) us.toList (fun n m h=>by simp [Env.at,fX (c:=c) h]) hus
 refine Calls.mono (hd.2 (r.at l c) (uD l ow) w (Gv hs hin) hfa us hua) fun e w' ⟨j,r',ow',u,he,hp,hrel⟩=> ?_
 obtain⟨hq,hb⟩:=C7 hk hr hl hs hf' hp (hout j)
 exact⟨j,_,_,u,he,hq.upto hc,hv _ _ u hb hrel⟩
end Go.Sx
namespace Go.Sx
variable {P:Program}{I J:Type}
theorem va {c0 c1 c3:Nat}{h0:Heap}{h1:I→Heap}{h3:J→Heap}{a b:Code}{T:List Value}{T1:I→List Value}{T3:J→List Value}{e:bU} (ha:dh P c0 h0 c1 h1 a T .normal T1) (hc:c1≤c3) (hb:∀i,dh P c1 (h1 i) c3 h3 b (T1 i) e T3):dh P c0 h0 c3 h3 (.seq a b) T e T3:=by
 refine⟨Nat.le_trans ha.1 hc,fun r ow w hs hf x hx hd=> ?_⟩
 refine wp_seq (wp_mono (ha.2 r ow w hs (hf.sub (Nat.le_refl _) hc) x hx hd) ?_)
 intro e' a' w' ⟨i,hex,hd',r',ow',hp,ha'⟩
 cases e' <;> simp only [cO] at hex
 refine wp_mono ((hb i).2 r' ow' w' hp.sat (hf.after hp.new ha.1) a' ha' hd') ?_
 intro e2 a2 w2 ⟨j,q1,q2,r4,o4,q3,q4⟩
 exact⟨j,q1,q2,r4,o4,hp.trans q3,q4⟩
end Go.Sx
namespace Go.Proofs.YtalanookmohdeaaGreatDoor
open Go Go.Sx
theorem LU {a b:Code} (h:a=b) {c c1:Nat}{h0 h1:Heap}{T T1:List Value}{e:bU} (hd:ab Tryz.prog c h0 c1 h1 (.code b T) (.out e T1)):ab Tryz.prog c h0 c1 h1 (.code a T) (.out e T1):=by rw [h];exact hd
theorem qN {I:Type}{a b:Code} (h:a=b) {c c1:Nat}{h0:Heap}{h1:I→Heap}{T:List Value}{T1:I→List Value}{e:bU} (hd:dh Tryz.prog c h0 c1 h1 b T e T1):dh Tryz.prog c h0 c1 h1 a T e T1:=by rw [h];exact hd
theorem yC {k:Code}{c c1:Nat}{h0 h1:Heap}{T T' T1:List Value}{e:bU} (h:ab Tryz.prog c h0 c1 h1 (.code k T) (.out e T1)) (hT:∀r us,aw r T' us→aw r T us):ab Tryz.prog c h0 c1 h1 (.code k T') (.out e T1):=
 ⟨h.1,fun r ow w hs hf a ha hd=>h.2 r ow w hs hf a (hT r _ ha) hd⟩
theorem C9 {r:Env}{args us:List Value}{n:Nat}{l:List (Nat×Value)} (hn:args.length≤n) (h:aw r (args++List.replicate (n - args.length) undef) us) (hl:∀i v,eL l i=v→v= .chan none∨args[i]? =some v):aw r (ay n 0 l) us:=by
 refine ng n 0 us (by rw [←h.length];simp;omega) fun j u hu=> ?_
 rw [Nat.zero_add]
 rcases hl j _ rfl with e|e
 · rw [e];exact .any
 · obtain⟨x,hx,hr⟩:=h.get' j u hu
   have hj:=(List.getElem?_eq_some_iff.1 e).1
   rw [List.getElem?_append_left hj,e] at hx
   cases hx;exact hr
theorem S7 {a b:Value} (i:Nat):∀v,eL [(0,a),(1,b)] i=v→v= .chan none∨ [a,b][i]? =some v:=fun v h=>by
 match i with
 |0=>right;exact congrArg some h
 |1=>right;exact congrArg some h
 |i+2=>left;rw [←h];simp [eL,cj]
theorem Sz {a:Value} (i:Nat):∀v,eL [(0,a)] i=v→v= .chan none∨ [a][i]? =some v:=fun v h=>by
 match i with
 |0=>right;exact congrArg some h
 |i+1=>left;rw [←h];simp [eL,cj]
theorem C2:hI= .seq (bD [0] hI) (.seq (bD [1,0] hI) (.seq (.block 1 (.seq (bD [1,1,0,0,0] hI) (.seq (bD [1,1,0,0,1,0] hI) (.block 2 (.loop oZ))))) (bD [1,1,1] hI))):=by kernel_rfl
theorem OK:bA 22= .seq (bD [0] (bA 22)) (.seq (.seq (bD [1,0,0] (bA 22)) (.block 0 (.loop hI))) (bD [1,1] (bA 22))):=by kernel_rfl
theorem Cs.Cg (m:Cs):m.bN≤6:=by
 cases m with
 |out y m=>cases m <;> exact Nat.le_of_ble_eq_true rfl
 |inn y nb ws m=>cases m <;> exact Nat.le_of_ble_eq_true rfl
def hS (C:cF) (p:Lm) (σ:eQ):Heap:= [(0,.args C.B C.w0),(31,.cells [.pointer (some ⟨15,0,none⟩),.pointer (some ⟨27,0,none⟩),.chan none,.chan none,.chan none,.chan none,.chan none,.chan none] 51)]++dy p σ
section
variable {C:cF}{p:Lm}{u:Tu}{h0:Heap}
theorem Cx {n m q:Nat} (hn:100≤n) (hm:100≤m) (hq:q < 100):dL n m q=some q:=by
 unfold dL
 rw [if_neg (by omega),if_neg (by omega)]
theorem Kk {x z z':Nat}{s:RS} (hs:s.Ok C p.g) (hk:cu (aY (gS C p u 600 x z s))=true) (h1:100≤z∧100≤z'∧z≠600∧z'≠600∧x≠z∧x≠z'):ia z z' (gS C p u 600 x z s) (gS C p u 600 x z' s):=fun k c hc=>by
 obtain⟨i,d,q1,q2,q3⟩:=nL (nm:=dL z z') (x':=x) (z':=z') hk (fun q hq=>Cx h1.1 h1.2.1 hq) (by unfold dL;rw [if_neg (by omega),if_neg (by omega)]) (by unfold dL;rw [if_neg (by omega),if_neg (by omega)]) (by unfold dL;rw [if_pos rfl]) (fun nt l e=>(hs.row nt l e).1) k c hc
 exact⟨i,d,q2,q1,q3⟩
theorem Kx {x x' z:Nat}{s:RS} (hs:s.Ok C p.g) (hk:cu (aY (gS C p u 600 x z s))=true) (h1:100≤x∧100≤x'∧x≠600∧x'≠600∧z≠x∧z≠x'):ia x x' (gS C p u 600 x z s) (gS C p u 600 x' z s):=fun k c hc=>by
 obtain⟨i,d,q1,q2,q3⟩:=nL (nm:=dL x x') (x':=x') (z':=z) hk (fun q hq=>Cx h1.1 h1.2.1 hq) (by unfold dL;rw [if_neg (by omega),if_neg (by omega)]) (by unfold dL;rw [if_pos rfl]) (by unfold dL;rw [if_neg (by omega),if_neg (by omega)]) (fun nt l e=>(hs.row nt l e).1) k c hc
 exact⟨i,d,q2,q1,q3⟩
theorem LY (hok:C.Ok) {s:RS}{k:Nat}:s.qC C k≤4000:=by
 unfold RS.qC
 split
 · rename_i x n m hx _ _
   have:=hok.len k x hx
   have:=m.Cg
   omega
 · omega
theorem Lx (hok:C.Ok) (hthr:(C.nc:Int)≤p.c) (top:p.g < 9223372036854775808):∀(r k:Nat) (s:RS),C.nc - k=r→k≤C.nc→s.Ok C p.g→
  jb Tryz.prog 601 h0 603 (gS C p u 600 602 601 s) 1100 (fun s': {s // RS.Ok C p.g s}=>gS C p u 600 602 601 s'.1) hI (ay 59 0 (hZ C k)) (.exit 0) (fun _=>ay 59 0 (hZ C C.nc)):=by
 have hnc:=hok.nc
 intro r
 induction r with
 |zero=>
  intro k s hr hk hs
  have:k=C.nc:=by omega
  subst this
  have hd:decide ((C.nc:Int) < (C.nc:Int))=false:=decide_eq_false (by omega)
  have hend:ab Tryz.prog 603 (gS C p u 600 602 601 s) 603 (gS C p u 600 602 601 s) (.code hI (ay 59 0 (hZ C C.nc))) (.out (.exit 0) (ay 59 0 (hZ C C.nc))):=LU C2 (nw (Pn (C:=C) (k:=C.nc) (c:=603) (H:=gS C p u 600 602 601 s)) (rT (b:= .seq (.block 1 (.seq (bD [1,1,0,0,0] hI) (.seq (bD [1,1,0,0,1,0] hI) (.block 2 (.loop oZ))))) (bD [1,1,1] hI)) nofun (SO hd)))
  refine p9 (ρ:= [(601,601),(602,602)]) ⟨s,hs⟩ nofun rfl (by decide) (by decide) hend ⟨?_,fun r r2 us hb h=> ?_⟩
  · exact nL (mX (by simp)) (fun q hq=>jC (by decide) (by decide) (by omega)) (jC (by decide) (by decide) (by decide)) rfl rfl fun nt l e=>(hs.row nt l e).1
  · exact gI hb rfl h
 |succ r ih=>
  intro k s hr hk hs
  have hlt:k < C.nc:=by omega
  have hd:decide ((k:Int) < (C.nc:Int))=true:=decide_eq_true (by omega)
  have hin:dh Tryz.prog 603 (gS C p u 600 602 601 s) 1100 (fun s': {s // RS.Ok C p.g s}=>gS C p u 600 604 603 s'.1) (.block 2 (.loop oZ)) (ay 59 0 (um C k 0)) .normal (fun _=>ay 59 0 (hZ C k)):=
   kC (by decide) (je (cm':=604) (by decide) (by decide) (iD (n:=601) (m:=603) (by decide) (by decide) (Kk hs (mX (by simp)) (by decide))) fun _=>
    je (cm':=605) (by decide) (by decide) (iD (n:=602) (m:=604) (by decide) (by decide) (Kx hs (mX (by simp)) (by decide))) fun _=>NH hok hthr top hlt (s.qC C k) 0 s rfl (by have:=LY hok (s:=s) (k:=k);omega) hs)
  have hround:=qN C2 (eE (Pn (C:=C) (k:=k) (c:=603) (H:=gS C p u 600 602 601 s)) (eE (Ua hd) (lM (c3:=1100) (B6 nofun (eE Us (eE Ux hin))) (Nat.le_refl _) fun i=>Uz (C:=C) (k:=k) (c:=1100) (H:=gS C p u 600 604 603 i.1))))
  refine B3 (ρ:=fun _=> [(601,603),(602,604)]) (cn:=603) (fun _=>rfl) (by decide) (by decide) (by decide) hround (hm':=fun i=>gS C p u 600 602 601 i.1) (T'':=fun _=>ay 59 0 (hZ C (k+1))) (fun i=>⟨?_,fun r r2 us hb h=> ?_⟩) fun i=>ih (k+1) i.1 (by omega) (by omega) i.2
  · exact nL (mX (by simp)) (fun q hq=>jC (by decide) (by decide) (by omega)) (jC (by decide) (by decide) (by decide)) rfl rfl fun nt l e=>(i.2.row nt l e).1
  · refine gI hb ?_ h
    simp only [List.map_cons,List.map_nil,ao,jC (a:=601) (b:=603) (c:=602) (d:=604) (y:=601) (c1:=1100) (q:=31) (by decide) (by decide) (by decide),jC (a:=601) (b:=603) (c:=602) (d:=604) (y:=601) (c1:=1100) (q:=600) (by decide) (by decide) (by decide)]
    rw [wrap64 (by omega) (by omega)];rfl
theorem O4 {nm:Nat→Option Nat}{x z:Nat}{nx:List Nat}{at_:List Int}{tf:Tf}{ck:Int}{Y Z:aG}{σ:eQ} (hk:cu (aY (gZ C p u 600 x z nx at_ tf ck Y Z σ))=true) (h:P3 nm):
  ∀n c,(hS C p σ).get n=some c→∃s d,nm s=some n∧(gZ C p u 600 x z nx at_ tf ck Y Z σ).get s=some d∧az (d.bC nm) c:=by
 refine pP hk fun q hq=> ?_
 unfold hS at hq
 rcases List.mem_append.1 hq with hq|hq
 · simp only [List.mem_cons,List.not_mem_nil,or_false] at hq
   rcases hq with rfl|rfl
   · exact⟨(0,.args C.B C.w0),uA (.inl (by simp [fw])),h 0 (by decide),.args⟩
   · refine⟨(31,sX C.nc (tf.val x) ck),uA (.inl (by simp [fw])),h 31 (by decide),?_⟩
     refine .cells ?_
     simp only [List.map_cons,List.map_nil,ao,h 15 (by decide),h 27 (by decide)]
     exact .same rfl (.same rfl (.any (.any (.any (.any (.any (.any .nil)))))))
 · exact⟨q,uA (.inr (.inr hq)),Dn h q hq⟩
theorem I1 (hok:C.Ok) (hthr:(C.nc:Int)≤p.c) (top:p.g < 9223372036854775808) {s:RS} (hs:s.Ok C p.g):oW Tryz.prog 600 (gS C p u 4 101 100 s) 1200 (hS C p) 22 [.pointer (some ⟨31,0,none⟩),.agg ⟨ff C u⟩] (.bool true):=by
 obtain⟨body,hbd⟩:∃body,Tryz.f22.body=some body:=⟨_,rfl⟩
 have e:body=bA 22:=by
  unfold bA
  rw [Tryz.func22]
  simp only [hbd]
 refine Fu (T2:=ay 59 0 [(4,.bool true)]) (t:=4) (fn:=Tryz.f22) (body:=body) Tryz.func22 hbd rfl ?_ rfl
 rw [e]
 refine qN OK ?_
 have h0:ab Tryz.prog 600 (gS C p u 4 101 100 s) 601 (gS C p u 600 101 100 s) (.code (bD [0] (bA 22)) (ay 59 0 [(0,.pointer (some ⟨31,0,none⟩)),(1,.agg ⟨ff C u⟩)])) (.out .normal (ay 59 0 [(0,.pointer (some ⟨31,0,none⟩)),(3,.pointer (some ⟨600,0,none⟩))])):=by
  unfold gS
  cases s.tf with
  |nil=>exact RY
  |row nt l=>exact Sj
 have hloop:dh Tryz.prog 601 (gS C p u 600 101 100 s) 1100 (fun s': {s // RS.Ok C p.g s}=>gS C p u 600 602 601 s'.1) (.block 0 (.loop hI)) (ay 59 0 (hZ C 0)) .normal (fun _=>ay 59 0 (hZ C C.nc)):=
  kC (by decide) (je (cm':=602) (by decide) (by decide) (iD (n:=100) (m:=601) (by decide) (by decide) (Kk hs (mX (by simp)) (by decide))) fun _=>
   je (cm':=603) (by decide) (by decide) (iD (n:=101) (m:=602) (by decide) (by decide) (Kx hs (mX (by simp)) (by decide))) fun _=>Lx hok hthr top C.nc 0 s (by omega) (Nat.zero_le _) hs)
 have hall:dh Tryz.prog 601 (gS C p u 600 101 100 s) 1100 (fun s': {s // RS.Ok C p.g s}=>gS C p u 600 602 601 s'.1) (.seq (.seq (bD [1,0,0] (bA 22)) (.block 0 (.loop hI))) (bD [1,1] (bA 22))) (ay 59 0 [(0,.pointer (some ⟨31,0,none⟩)),(3,.pointer (some ⟨600,0,none⟩))]) .ret (fun _=>ay 59 0 [(4,.bool true)]):=
  lM (eE Uh hloop) (Nat.le_refl _) fun i=>RL
 have hfin:dh Tryz.prog 601 (gS C p u 600 101 100 s) 1200 (hS C p) (.seq (.seq (bD [1,0,0] (bA 22)) (.block 0 (.loop hI))) (bD [1,1] (bA 22))) (ay 59 0 [(0,.pointer (some ⟨31,0,none⟩)),(3,.pointer (some ⟨600,0,none⟩))]) .ret (fun _=>ay 59 0 [(4,.bool true)]):=
  hall.Rf (ρ:= []) (fun i=>i.1.σ) rfl (by decide) fun i=>⟨O4 (mX (by simp)) fun q hq=>by
   show(match inside 601 1200 q with|true=>none|false=>some q)=some q
   cases h:inside 601 1200 q with
   |false=>rfl
   |true=>have:=b8.1 h;omega,fun r r2 us hb h=>gI hb rfl h⟩
 exact eE (yC h0 fun r us h=>C9 (n:=59) (Nat.le_of_ble_eq_true rfl) h (fun i=>S7 i)) hfin
end
section
open Go Go.Sx
def dj (p:Lm) (QB nc qc:Nat) (u:Tu):List Value:= [.int .i64 (Int.ofNat (p.s+1)),.int .i64 (Int.ofNat (p.q+1)),.int .i64 p.c,.int .i64 p.d,.int .i64 p.e,.int .i64 p.g,.slice (some ⟨QB,0,some 1⟩) nc qc,fx u]
def NW (B:Nat) (w0:World) (S:List Nat) (w1:World):Heap:= [(0,.args B w0),(1,.froz S w1)]
def nG (B:Nat) (w0:World) (S:List Nat) (w1:World) (v:List Value):Heap:= [(0,.args B w0),(1,.froz S w1),(4,.cells v 27)]
section
variable {p:Lm}{u:Tu}{B QB qc:Nat}{w0 w1:World}{S:List Nat}
set_option maxRecDepth 100000
theorem PZ {k:Nat}:ab Tryz.prog 4 (NW B w0 S w1) 5 (nG B w0 S w1 (dj p QB k qc u)) (.code (bD [0] (bA 6)) (ay 30 0 [(0,.agg ⟨dj p QB k qc u⟩)])) (.out .normal (ay 30 0 [(1,.pointer (some ⟨4,0,none⟩))])):=
 bW mixed ar (C:=cz) (nn:=600) (d:= []) (by kernel_rfl) vN
theorem Px (h:aW (gV p.s p.q p.c p.d p.e p.g)):∀k,1≤k→k≤8→ab Tryz.prog 5 (nG B w0 S w1 (dj p QB k qc u)) (32+4*k) (nG B w0 S w1 (dj p QB k qc u)++dW p.s p.q p.c p.d p.e p.g k) (.code (bD [1,0] (bA 6)) (ay 30 0 [(1,.pointer (some ⟨4,0,none⟩))])) (.out .normal (ay 30 0 [(1,.pointer (some ⟨4,0,none⟩)),(4,.pointer (some ⟨31,0,none⟩))])):=by
 intro k h1 h8
 have hk:k=1∨k=2∨k=3∨k=4∨k=5∨k=6∨k=7∨k=8:=by omega
 rcases hk with rfl|rfl|rfl|rfl|rfl|rfl|rfl|rfl
 · exact bW mixed (ar.aE [20]) (C:=aE Tryz.prog cz [20]) (nn:=600) (c1:=36) (d:= [(1,.loop [] [] 36 (dW p.s p.q p.c p.d p.e p.g 1) .normal [.pointer (some ⟨31,0,none⟩)])]) (L:= [.p (ab Tryz.prog 5 [] 36 (dW p.s p.q p.c p.d p.e p.g 1) (.call 20 [.agg ⟨dj p QB 1 qc u⟩]) (.val (.pointer (some ⟨31,0,none⟩))))]) (l:= [(1,.pointer (some ⟨4,0,none⟩)),(4,.pointer (some ⟨31,0,none⟩))]) (by kernel_rfl) (vP (NF h) vN)
 · exact bW mixed (ar.aE [20]) (C:=aE Tryz.prog cz [20]) (nn:=600) (c1:=40) (d:= [(1,.loop [] [] 40 (dW p.s p.q p.c p.d p.e p.g 2) .normal [.pointer (some ⟨31,0,none⟩)])]) (L:= [.p (ab Tryz.prog 5 [] 40 (dW p.s p.q p.c p.d p.e p.g 2) (.call 20 [.agg ⟨dj p QB 2 qc u⟩]) (.val (.pointer (some ⟨31,0,none⟩))))]) (l:= [(1,.pointer (some ⟨4,0,none⟩)),(4,.pointer (some ⟨31,0,none⟩))]) (by kernel_rfl) (vP (Nq h) vN)
 · exact bW mixed (ar.aE [20]) (C:=aE Tryz.prog cz [20]) (nn:=600) (c1:=44) (d:= [(1,.loop [] [] 44 (dW p.s p.q p.c p.d p.e p.g 3) .normal [.pointer (some ⟨31,0,none⟩)])]) (L:= [.p (ab Tryz.prog 5 [] 44 (dW p.s p.q p.c p.d p.e p.g 3) (.call 20 [.agg ⟨dj p QB 3 qc u⟩]) (.val (.pointer (some ⟨31,0,none⟩))))]) (l:= [(1,.pointer (some ⟨4,0,none⟩)),(4,.pointer (some ⟨31,0,none⟩))]) (by kernel_rfl) (vP (Mr h) vN)
 · exact bW mixed (ar.aE [20]) (C:=aE Tryz.prog cz [20]) (nn:=600) (c1:=48) (d:= [(1,.loop [] [] 48 (dW p.s p.q p.c p.d p.e p.g 4) .normal [.pointer (some ⟨31,0,none⟩)])]) (L:= [.p (ab Tryz.prog 5 [] 48 (dW p.s p.q p.c p.d p.e p.g 4) (.call 20 [.agg ⟨dj p QB 4 qc u⟩]) (.val (.pointer (some ⟨31,0,none⟩))))]) (l:= [(1,.pointer (some ⟨4,0,none⟩)),(4,.pointer (some ⟨31,0,none⟩))]) (by kernel_rfl) (vP (Lk h) vN)
 · exact bW mixed (ar.aE [20]) (C:=aE Tryz.prog cz [20]) (nn:=600) (c1:=52) (d:= [(1,.loop [] [] 52 (dW p.s p.q p.c p.d p.e p.g 5) .normal [.pointer (some ⟨31,0,none⟩)])]) (L:= [.p (ab Tryz.prog 5 [] 52 (dW p.s p.q p.c p.d p.e p.g 5) (.call 20 [.agg ⟨dj p QB 5 qc u⟩]) (.val (.pointer (some ⟨31,0,none⟩))))]) (l:= [(1,.pointer (some ⟨4,0,none⟩)),(4,.pointer (some ⟨31,0,none⟩))]) (by kernel_rfl) (vP (Mf h) vN)
 · exact bW mixed (ar.aE [20]) (C:=aE Tryz.prog cz [20]) (nn:=600) (c1:=56) (d:= [(1,.loop [] [] 56 (dW p.s p.q p.c p.d p.e p.g 6) .normal [.pointer (some ⟨31,0,none⟩)])]) (L:= [.p (ab Tryz.prog 5 [] 56 (dW p.s p.q p.c p.d p.e p.g 6) (.call 20 [.agg ⟨dj p QB 6 qc u⟩]) (.val (.pointer (some ⟨31,0,none⟩))))]) (l:= [(1,.pointer (some ⟨4,0,none⟩)),(4,.pointer (some ⟨31,0,none⟩))]) (by kernel_rfl) (vP (Nb h) vN)
 · exact bW mixed (ar.aE [20]) (C:=aE Tryz.prog cz [20]) (nn:=600) (c1:=60) (d:= [(1,.loop [] [] 60 (dW p.s p.q p.c p.d p.e p.g 7) .normal [.pointer (some ⟨31,0,none⟩)])]) (L:= [.p (ab Tryz.prog 5 [] 60 (dW p.s p.q p.c p.d p.e p.g 7) (.call 20 [.agg ⟨dj p QB 7 qc u⟩]) (.val (.pointer (some ⟨31,0,none⟩))))]) (l:= [(1,.pointer (some ⟨4,0,none⟩)),(4,.pointer (some ⟨31,0,none⟩))]) (by kernel_rfl) (vP (Np h) vN)
 · exact bW mixed (ar.aE [20]) (C:=aE Tryz.prog cz [20]) (nn:=600) (c1:=64) (d:= [(1,.loop [] [] 64 (dW p.s p.q p.c p.d p.e p.g 8) .normal [.pointer (some ⟨31,0,none⟩)])]) (L:= [.p (ab Tryz.prog 5 [] 64 (dW p.s p.q p.c p.d p.e p.g 8) (.call 20 [.agg ⟨dj p QB 8 qc u⟩]) (.val (.pointer (some ⟨31,0,none⟩))))]) (l:= [(1,.pointer (some ⟨4,0,none⟩)),(4,.pointer (some ⟨31,0,none⟩))]) (by kernel_rfl) (vP (MO h) vN)
end
end
end Go.Proofs.YtalanookmohdeaaGreatDoor
namespace Go.Sx
variable {P:Program}
theorem wZ {x:aG}{w:World}:∀ {L:List aG}{S:Nat→Prop},(ad (x::L)).holds w S→(ad (L++ [x])).holds w S
 | [],_,h=>h
 |y::L,S,⟨S1,S2,h1,h2,h3,h4,T1,T2,g1,g2,g3,g4,g5⟩=>
  ⟨T1,fun b=>S1 b∨T2 b,fun b h=>h2 b (g1 b h),fun b h=>h.elim (h1 b) fun q=>h2 b (g2 b q),fun b p q=>q.elim (fun q=>h3 b q (g1 b p)) (g3 b p),g4,
   wZ (L:=L) ⟨S1,T2,fun b h=> .inl h,fun b h=> .inr h,fun b p q=>h3 b p (g2 b q),h4,g5⟩⟩
theorem Jh {r:Env}{ow:Nat→Option Nat}{H H1:Heap}{w:World}{z z2:Nat}{X:aG} (hs:Sat P r ow H w) (hm:r.blk z2=none∧r.val z2=none) (hz:H.get z=some (.sem X))
  (hH:∀k x,H1.get k=some x→(k=z2∧x= .sem X)∨(k≠z∧k≠z2∧H.get k=some x)):Sat P (r.one z2 .nilIface) (fun b=>if ow b=some z then some z2 else ow b) H1 w:=by
 classical
 have hle:r.Le (r.one z2 .nilIface):=one_le hm
 refine⟨fun k x hx=> ?_,fun b k hb=> ?_,fun b k hb=> ?_⟩
 · rcases hH k x hx with⟨rfl,rfl⟩|⟨hkz,hkz2,hk⟩
   · exact X.up (fun b hb=>by show(if _ then _ else _)=_;rw [if_pos hb]) (hs.chunk z _ hz)
   · refine Chunk.cR (w:=w) (ow:=ow) (fun b hb=>rfl) (fun b=> ?_) (Chunk.dX hle (hs.chunk k x hk))
     show(if ow b=some z then some z2 else ow b)=some k ↔ ow b=some k
     by_cases q:ow b=some z
     · rw [if_pos q,q]
       exact⟨fun e=>absurd (Option.some.inj e).symm hkz2,fun e=>absurd (Option.some.inj e).symm hkz⟩
     · rw [if_neg q]
 · change (if ow b=some z then some z2 else ow b)=some k at hb
   by_cases q:ow b=some z
   · exact hs.bound b _ q
   · rw [if_neg q] at hb;exact hs.bound b k hb
 · change (if ow b=some z then some z2 else ow b)=some k at hb
   by_cases q:ow b=some z
   · rw [if_pos q] at hb;cases hb
     exact .inr (by show(if z2=z2 then _ else _)≠_;rw [if_pos rfl];simp)
   · rw [if_neg q] at hb
     rcases hs.known b k hb with e|e
     · exact .inl e
     · refine .inr ?_
       show(if k=z2 then _ else _)≠_
       split
       · simp
       · exact e
theorem MN {r:Env}{ow:Nat→Option Nat}{H H1:Heap}{w:World}{n m p b:Nat}{l:List Value}{t:TypeId} (hs:Sat P r ow H w) (hn:H.get n=some (.cells l t)) (hp:l[p]? =some (.pointer (some ⟨m,0,none⟩))) (hm:r.blk m=some b)
  (hH:∀k x,H1.get k=some x→(k=n∧x= .cells (l.set p (.pointer (some ⟨b,0,some 0⟩))) t)∨H.get k=some x):Sat P r ow H1 w:=by
 refine⟨fun k x hx=> ?_,hs.bound,hs.known⟩
 rcases hH k x hx with⟨rfl,rfl⟩|hk
 · obtain⟨b',cs,c1,c2,c3,c4,c5,c6⟩:=hs.chunk k _ hn
   obtain⟨u,d1,d2⟩:=c4.get p _ hp
   have hu:u= .pointer (some ⟨b,0,none⟩):=by
    cases d2 with|ptr h=>rw [hm] at h;cases h;rfl
   subst hu
   refine⟨b',cs,c1,c2,c3,?_,by rw [List.length_set];exact c5,c6⟩
   have:=c4.set (x:= .pointer (some ⟨b,0,some 0⟩)) (y:= .pointer (some ⟨b,0,none⟩)) .litPtr p
   rw [List.length_set]
   have e2:(cs.toList.take l.length).set p (.pointer (some ⟨b,0,none⟩))=cs.toList.take l.length:=by
    apply List.ext_getElem?
    intro i
    rw [List.getElem?_set]
    split
    · rename_i q;subst q
      split
      · exact d1.symm
      · rename_i q;rw [List.getElem?_eq_none (by omega)] at d1;cases d1
    · rfl
   rw [e2] at this;exact this
 · exact hs.chunk k x hk
theorem FU {cm cm' z z2 m0 n p:Nat}{ns:List Nat}{H H1 X:Heap}{H':Nat→Heap}{T:List Value}{Ls:List aG}{l:List Value}{t:TypeId} (h1:cm≤z2) (h2:z2 < cm') (hz:H.get z=some (.sem (ad Ls)))
  (hH1:∀k x,H1.get k=some x→(k=z2∧x= .sem (ad Ls))∨(k≠z∧k≠z2∧H.get k=some x)) (hz1:H1.get z2=some (.sem (ad Ls))) (hl:cu (m0::ns)=true) (hnl:z2 ∉ m0::ns) (hm0:∃c t,H1.get m0=some (.cells c t))
  (hh:∀i x',X.get i=some x'→∃m x,(m0::ns)[i]? =some m∧H1.get m=some x∧az (x.bC (back (m0::ns))) x')
  (hn:H1.get n=some (.cells l t)) (hnn:n ∉ m0::ns) (hnz:n≠z2) (hp:l[p]? =some (.pointer (some ⟨m0,0,none⟩)))
  (hH':∀b k x,(H' b).get k=some x→(k=n∧x= .cells (l.set p (.pointer (some ⟨b,0,some 0⟩))) t)∨(k=z2∧x= .sem (ad (Ls++ [gW P b fun _ h=>h=X])))∨(k≠z2∧k ∉ m0::ns∧H1.get k=some x)):
  Conv P (I:=Nat) cm cm' H T H' (fun _=>T):=by
 refine⟨fun r ow w hs hf=> ?_⟩
 have hm:=hf z2 h1 h2
 have hle:r.Le (r.one z2 .nilIface):=one_le hm
 have s1:=Jh hs hm hz hH1
 obtain⟨c0,t0,hc0⟩:=hm0
 obtain⟨b,cs,e1,_⟩:=s1.chunk m0 _ hc0
 obtain⟨ow',s2,g1,g2⟩:=xe (F:=fun _ h=>h=X) (h:=X) s1 hz1 hl hnl (.inr (by show(if z2=z2 then _ else _)≠_;rw [if_pos rfl];simp)) e1 rfl hh
 have hget:∀k,k ∉ m0::ns→k≠z2→((H1.cw (m0::ns)).put z2 (.sem ((gW P b fun _ h=>h=X).sep (ad Ls)))).get k=H1.get k:=fun k hk hkz=>by
  rw [Heap.cG,if_neg hkz,Heap.dJ,if_neg hk]
 refine⟨b,r.one z2 .nilIface,ow',hle,?_,m7 h1 h2,fun x k hb=> ?_,fun x hb=> ?_,fun us h=>h.mono hle⟩
 · refine MN (n:=n) (m:=m0) (p:=p) (b:=b) (l:=l) (t:=t) (H:=((H1.cw (m0::ns)).put z2 (.sem (ad (Ls++ [gW P b fun _ h=>h=X]))))) ⟨fun k x hx=> ?_,s2.bound,s2.known⟩ ?_ hp e1 fun k x hx=> ?_
   · rw [Heap.cG] at hx
     split at hx
     · rename_i q;cases hx
       have:=s2.chunk z2 _ (by rw [Heap.cG,if_pos rfl])
       rw [q]
       exact wZ this
     · rename_i q
       refine s2.chunk k x ?_
       rw [Heap.cG,if_neg q];exact hx
   · rw [Heap.cG,if_neg hnz,Heap.dJ,if_neg hnn];exact hn
   · rcases hH' b k x hx with q|⟨rfl,rfl⟩|⟨q1,q2,q3⟩
     · exact .inl q
     · exact .inr (by rw [Heap.cG,if_pos rfl])
     · exact .inr (by rw [Heap.cG,if_neg q1,Heap.dJ,if_neg q2];exact q3)
 · rcases g1 x k hb with⟨b',hb'⟩|rfl
   · change (if ow b'=some z then some z2 else ow b')=some k at hb'
     split at hb'
     · cases hb';exact .inr ⟨h1,h2⟩
     · exact .inl ⟨b',hb'⟩
   · exact .inr ⟨h1,h2⟩
 · refine g2 x ?_
   show(if _ then _ else _)=_
   rw [if_neg (by rw [hb];simp)];exact hb
end Go.Sx
namespace Go.Proofs.YtalanookmohdeaaGreatDoor
open Go Go.Sx
def fL:Cs:= .out false .idle
def σ0:eQ:=⟨1,0, -1,[],[]⟩
def iw (k:Nat) (cl:List (Nat×Nat)):List Value:=cP cl++(List.range' cl.length (k - cl.length)).map fun i=> .pointer (some ⟨33+4*i,0,none⟩)
def sr (k x:Nat):Chunk:= .cells [.pointer (some ⟨15,0,none⟩),.pointer (some ⟨27,0,none⟩),.slice (some ⟨x,0,none⟩) k 0,.slice (some ⟨29,0,none⟩) k 0,.slice none 0 0,.slice (some ⟨30,0,none⟩) k 0,.int .i64 0,.bool false] 51
def dq (B:Nat) (w0:World) (S:List Nat) (w1:World) (v:List Value) (k x z:Nat) (row:List Value) (Y:aG):Heap:=
 [(0,.args B w0),(1,.froz S w1),(4,.cells v 27),(29,.cells (List.replicate k (.int .i64 0)) 3),(30,.cells (List.replicate k (.int .i64 (-1))) 3),(31,sr k x),(x,.cells row 58),(z,.sem Y)]
def dV (B:Nat) (w0:World) (S:List Nat) (w1:World) (v:List Value) (p:Lm) (k z i:Nat) (cl:List (Nat×Nat)):Heap:=
 dq B w0 S w1 v k (31+4*k) z (iw k cl) (ad (dN 0 cl (List.replicate i fL)))++(qO i (k - i)++dy p σ0)
theorem zp:∀(cl:List (Nat×Nat)) (ms:List Cs) (j:Nat) (q:Nat×Nat) (m:Cs),cl.length=ms.length→dN j (cl++ [q]) (ms++ [m])=dN j cl ms++ [m.res ((j+cl.length:Nat):Int) q.1]
 | [],[],_,_,_,_=>rfl
 | [],_::_,_,_,_,h=>by simp at h
 |_::_,[],_,_,_,h=>by simp at h
 |a::cl,b::ms,j,q,m,h=>by
  have:=zp cl ms (j+1) q m (by simpa using h)
  show _::dN (j+1) (cl++ [q]) (ms++ [m])=_::(dN (j+1) cl ms++_)
  rw [this,show j+1+cl.length=j+(a::cl).length by simp;omega]
theorem IP {k b:Nat}{cl:List (Nat×Nat)} (h:cl.length < k):(iw k cl).set cl.length (.pointer (some ⟨b,0,some 0⟩))=iw k (cl++ [(b,0)]):=by
 obtain⟨n,hn⟩:∃n,k - cl.length=n+1:=⟨k - cl.length - 1,by omega⟩
 have hn2:k - (cl++ [(b,0)]).length=n:=by simp;omega
 have hl:(cP cl).length=cl.length:=by simp [cP]
 unfold iw
 rw [hn,hn2,List.range'_succ,List.map_cons,List.set_append_right _ _ (by omega),hl,Nat.sub_self,List.set_cons_zero]
 simp [cP]
theorem Jd {k:Nat}{cl:List (Nat×Nat)} (h:cl.length < k):(iw k cl)[cl.length]? =some (.pointer (some ⟨33+4*cl.length,0,none⟩)):=by
 obtain⟨n,hn⟩:∃n,k - cl.length=n+1:=⟨k - cl.length - 1,by omega⟩
 have hl:(cP cl).length=cl.length:=by simp [cP]
 unfold iw
 rw [hn,List.range'_succ,List.map_cons,List.getElem?_append_right (by omega),hl,Nat.sub_self];rfl
theorem JP {k:Nat}{cl:List (Nat×Nat)} (h:cl.length=k):iw k cl=cP cl:=by
 unfold iw
 rw [h,Nat.sub_self];simp
section
variable {B:Nat}{w0 w1:World}{S:List Nat}{v:List Value}{p:Lm}
theorem yO {k z i:Nat}{row:List Value}{Y:aG} (hk1:1≤k) (hk:k≤8) (hi:i≤k) (hz:z=64+i∨z=65+i):cu (aY (dq B w0 S w1 v k (31+4*k) z row Y++(qO i (k - i)++dy p σ0)))=true:=by
 have hk2:k=1∨k=2∨k=3∨k=4∨k=5∨k=6∨k=7∨k=8:=by omega
 have hi2:i=0∨i=1∨i=2∨i=3∨i=4∨i=5∨i=6∨i=7∨i=8:=by omega
 rcases hk2 with rfl|rfl|rfl|rfl|rfl|rfl|rfl|rfl <;> rcases hi2 with rfl|rfl|rfl|rfl|rfl|rfl|rfl|rfl|rfl <;> first|omega|(rcases hz with rfl|rfl <;> rfl)
theorem qe:∀ {n i:Nat}{q:Nat×Chunk},q∈qO i n→∃j,i≤j∧j < i+n∧(q.1=32+4*j∨q.1=33+4*j)
 |0,_,_,h=>by cases h
 |n+1,i,q,h=>by
  rcases List.mem_cons.1 h with rfl|h
  · exact⟨i,Nat.le_refl _,by omega,.inl rfl⟩
  · rcases List.mem_cons.1 h with rfl|h
    · exact⟨i,Nat.le_refl _,by omega,.inr rfl⟩
    · obtain⟨j,h1,h2,h3⟩:=qe h
      exact⟨j,by omega,by omega,h3⟩
theorem wQ {σ:eQ}{q:Nat×Chunk} (hq:q∈dy p σ):q.1 < 28∧9≤q.1:=by
 simp only [dy,List.mem_cons,List.not_mem_nil,or_false] at hq
 rcases hq with rfl|rfl|rfl|rfl|rfl|rfl|rfl|rfl|rfl|rfl|rfl|rfl <;> exact⟨Nat.le_of_ble_eq_true rfl,Nat.le_of_ble_eq_true rfl⟩
theorem OZ {k:Nat}{T:List Value}{cl:List (Nat×Nat)} (hk:k≤8) (hl:cl.length < k):Conv Tryz.prog (I:=Nat) (65+cl.length) (66+cl.length) (dV B w0 S w1 v p k (64+cl.length) cl.length cl) T (fun b=>dV B w0 S w1 v p k (65+cl.length) (cl.length+1) (cl++ [(b,0)])) (fun _=>T):=by
 obtain⟨n,hn⟩:∃n,k - cl.length=n+1:=⟨k - cl.length - 1,by omega⟩
 have hn1:k - (cl.length+1)=n:=by omega
 have hA:qO cl.length (k - cl.length)=(32+4*cl.length,.cells (KI cl.length) 167)::(33+4*cl.length,.cells (KC cl.length (32+4*cl.length)) 104)::qO (cl.length+1) n:=by rw [hn];rfl
 have g0:=fun {q:Nat×Chunk} (h:q∈dV B w0 S w1 v p k (64+cl.length) cl.length cl)=>get_of_mem (n:=q.1) (x:=q.2) (yO (row:=iw k cl) (Y:=ad (dN 0 cl (List.replicate cl.length fL))) (by omega) hk (Nat.le_of_lt hl) (.inl rfl)) h
 have g1:=fun {q:Nat×Chunk} (h:q∈dV B w0 S w1 v p k (65+cl.length) cl.length cl)=>get_of_mem (n:=q.1) (x:=q.2) (yO (row:=iw k cl) (Y:=ad (dN 0 cl (List.replicate cl.length fL))) (by omega) hk (Nat.le_of_lt hl) (.inr rfl)) h
 have hm0:(dV B w0 S w1 v p k (65+cl.length) cl.length cl).get (33+4*cl.length)=some (.cells (KC cl.length (32+4*cl.length)) 104):=g1 (q:=(_,_)) (by unfold dV;rw [hA];simp)
 have hm1:(dV B w0 S w1 v p k (65+cl.length) cl.length cl).get (32+4*cl.length)=some (.cells (KI cl.length) 167):=g1 (q:=(_,_)) (by unfold dV;rw [hA];simp)
 have hrow:(dV B w0 S w1 v p k (65+cl.length) cl.length cl).get (31+4*k)=some (.cells (iw k cl) 58):=g1 (q:=(_,_)) (by unfold dV dq;simp)
 have hst:(dV B w0 S w1 v p k (65+cl.length) cl.length cl).get (65+cl.length)=some (.sem (ad (dN 0 cl (List.replicate cl.length fL)))):=g1 (q:=(_,_)) (by unfold dV dq;simp)
 refine FU (z:=64+cl.length) (z2:=65+cl.length) (m0:=33+4*cl.length) (ns:= [32+4*cl.length]) (n:=31+4*k) (p:=cl.length) (H1:=dV B w0 S w1 v p k (65+cl.length) cl.length cl) (X:=jP (cl.length:Nat) false (.chan none)) (Ls:=dN 0 cl (List.replicate cl.length fL)) (l:=iw k cl) (t:=58) (Nat.le_refl _) (by omega)
  (g0 (q:=(_,_)) (by unfold dV dq;simp)) (fun i c hc=> ?_) hst (by simp [cu,cY,cj]) (by simp;omega) ⟨_,_,hm0⟩ (fun i c hc=> ?_) hrow (by simp;omega) (by omega) (Jd hl) (fun b i c hc=> ?_)
 · have hm:=get_mem hc
   unfold dV dq at hm
   by_cases q:i=65+cl.length
   · left
     subst q
     rw [hst] at hc
     exact⟨rfl,(Option.some.inj hc).symm⟩
   · right
     have q2:i≠64+cl.length:=by
      rintro rfl
      rcases List.mem_append.1 hm with hm|hm
      · simp only [List.mem_cons,List.not_mem_nil,or_false,Prod.mk.injEq] at hm
        omega
      · rcases List.mem_append.1 hm with hm|hm
        · obtain⟨j,h1,h2,h3⟩:=qe hm
          simp only at h3;omega
        · have:=wQ hm
          simp only at this;omega
     refine⟨q2,q,g0 (q:=(_,_)) ?_⟩
     unfold dV dq
     rcases List.mem_append.1 hm with hm|hm
     · refine List.mem_append_left _ ?_
       simp only [List.mem_cons,List.not_mem_nil,or_false,Prod.mk.injEq] at hm ⊢
       rcases hm with h|h|h|h|h|h|h|h
       · simp [h]
       · simp [h]
       · simp [h]
       · simp [h]
       · simp [h]
       · simp [h]
       · simp [h]
       · exact absurd h.1 q
     · exact List.mem_append_right _ hm
 · have hm:=get_mem hc
   simp only [jP,List.mem_cons,List.not_mem_nil,or_false,Prod.mk.injEq] at hm
   rcases hm with⟨rfl,rfl⟩|⟨rfl,rfl⟩
   · refine⟨33+4*cl.length,_,rfl,hm0,.cells (iQ ?_)⟩
     have hb:back ((33+4*cl.length):: [32+4*cl.length]) (32+4*cl.length)=some 1:=by
      have:¬(33+4*cl.length=32+4*cl.length):=by omega
      simp [back,iR,cj,this]
     simp [KC,ao,hb,tG,pj,uj]
   · refine⟨32+4*cl.length,_,rfl,hm1,.cells (iQ ?_)⟩
     simp [KI,ao,kz,TG,pj,uj]
 · have hm:=get_mem hc
   unfold dV dq at hm
   rw [hn1] at hm
   rcases List.mem_append.1 hm with hm|hm
   · simp only [List.mem_cons,List.not_mem_nil,or_false,Prod.mk.injEq] at hm
     have aq:∀ {i c},i < 32→(i,c)∈dq B w0 S w1 v k (31+4*k) (65+cl.length) (iw k cl) (ad (dN 0 cl (List.replicate cl.length fL)))→i≠65+cl.length∧i ∉ (33+4*cl.length):: [32+4*cl.length]∧(dV B w0 S w1 v p k (65+cl.length) cl.length cl).get i=some c:=fun h1 h2=>⟨by omega,by simp;omega,g1 (q:=(_,_)) (List.mem_append_left _ h2)⟩
     rcases hm with⟨rfl,rfl⟩|⟨rfl,rfl⟩|⟨rfl,rfl⟩|⟨rfl,rfl⟩|⟨rfl,rfl⟩|⟨rfl,rfl⟩|⟨rfl,rfl⟩|⟨rfl,rfl⟩
     · exact .inr (.inr (aq (by decide) (by simp [dq])))
     · exact .inr (.inr (aq (by decide) (by simp [dq])))
     · exact .inr (.inr (aq (by decide) (by simp [dq])))
     · exact .inr (.inr (aq (by decide) (by simp [dq])))
     · exact .inr (.inr (aq (by decide) (by simp [dq])))
     · exact .inr (.inr (aq (by decide) (by simp [dq])))
     · exact .inl ⟨rfl,by rw [IP hl]⟩
     · refine .inr (.inl ⟨rfl,?_⟩)
       rw [List.replicate_succ',zp _ _ _ _ _ (by simp),Nat.zero_add]
       rfl
   · have hlt:i≠65+cl.length∧i ∉ (33+4*cl.length):: [32+4*cl.length]:=by
      rcases List.mem_append.1 hm with hm|hm
      · obtain⟨j,h1,h2,h3⟩:=qe hm
        simp only at h3
        exact⟨by omega,by simp;omega⟩
      · have:=wQ hm
        simp only at this
        exact⟨by omega,by simp;omega⟩
     refine .inr (.inr ⟨hlt.1,hlt.2,g1 (q:=(_,_)) ?_⟩)
     unfold dV
     rw [hA]
     refine List.mem_append_right _ ?_
     rcases List.mem_append.1 hm with hm|hm
     · exact List.mem_append_left _ (List.mem_cons_of_mem _ (List.mem_cons_of_mem _ hm))
     · exact List.mem_append_right _ hm
theorem yn {k:Nat}{T:List Value} (hk:k≤8):∀(n:Nat) (cl:List (Nat×Nat)),cl.length+n=k→
  Conv Tryz.prog (I:= {c:List (Nat×Nat) // c.length=k}) (65+cl.length) (65+k) (dV B w0 S w1 v p k (64+cl.length) cl.length cl) T (fun c=>dV B w0 S w1 v p k (64+k) k c.1) (fun _=>T)
 |0,cl,h=>by
  have h':cl.length=k:=by omega
  have:Conv Tryz.prog (I:=Unit) (65+cl.length) (65+cl.length) (dV B w0 S w1 v p k (64+cl.length) cl.length cl) T (fun _=>dV B w0 S w1 v p k (64+cl.length) cl.length cl) (fun _=>T):=Conv.refl
  subst h'
  exact this.less (fun _=>⟨cl,rfl⟩) (fun _ _ _ h=>h) fun _=>rfl
 |n+1,cl,h=>by
  have ih:∀b:Nat,Conv Tryz.prog (I:= {c:List (Nat×Nat) // c.length=k}) (66+cl.length) (65+k) (dV B w0 S w1 v p k (65+cl.length) (cl.length+1) (cl++ [(b,0)])) T (fun c=>dV B w0 S w1 v p k (64+k) k c.1) (fun _=>T):=fun b=>by
   have:=yn (T:=T) hk n (cl++ [(b,0)]) (by simp;omega)
   rw [List.length_append,List.length_singleton,show 65+(cl.length+1)=66+cl.length by omega,show 64+(cl.length+1)=65+cl.length by omega] at this
   exact this
  exact((OZ hk (by omega)).trans (by omega) (by omega) ih).less (fun q=>q.2) (fun _ _ _ h=>h) fun _=>rfl
end
section
open Go Go.Sx
def s0 (k:Nat):RS:=⟨List.replicate k 0,List.replicate k (-1),.nil,0,List.replicate k fL,σ0,List.replicate k (.slice none 0 0,0)⟩
def gN (C:cF) (p:Lm) (u:Tu):Heap:= [(0,.args C.B C.w0),(1,.froz C.S C.w1),(4,.cells (ff C u) 27),(91,.sem (ad (dN 0 C.cl (List.replicate C.nc fL)))),(31,sX C.nc (.slice none 0 0) 0),(29,.cells (di (List.replicate C.nc 0)) 3),(30,.cells (ints (List.replicate C.nc (-1))) 3),(90,.cells (cP C.cl) 58)]++dy p σ0
def cF.with (C:cF) (cl:List (Nat×Nat)):cF:= { C with cl:=cl}
theorem cF.Ok.with {C:cF} (h:C.Ok) {cl:List (Nat×Nat)} (hl:cl.length=C.nc):(C.with cl).Ok:=⟨h.n,hl,h.nc,h.q,h.a,h.k6,h.len,h.B,h.g⟩
theorem sZ:∀(xs:List (Nat×Nat×List Ac)) (ns:List Nat),(∀x∈xs,x.2.2.length≤100)→ic xs ns≤100*xs.length
 | [],_,_=>Nat.zero_le _
 |_::_,[],_=>Nat.zero_le _
 |x::xs,n::ns,h=>by
  have h1:=h x List.mem_cons_self
  have h2:=sZ xs ns fun y hy=>h y (List.mem_cons_of_mem _ hy)
  show(x.2.2.length - n)+ic xs ns≤100*(xs.length+1)
  omega
theorem rX:∀(xs:List (Nat×Nat×List Ac)) (ns:List Nat) (ms:List Cs),(∀x∈xs,x.2.2.length≤100)→jH xs ns ms≤3006*xs.length
 | [],_,_,_=>Nat.zero_le _
 |_::_,[],_,_=>Nat.zero_le _
 |_::_,_::_,[],_=>Nat.zero_le _
 |x::xs,n::ns,m::ms,h=>by
  have h1:=h x List.mem_cons_self
  have h2:=rX xs ns ms fun y hy=>h y (List.mem_cons_of_mem _ hy)
  have h3:=m.Cg
  show(m.bN+30*(x.2.2.length - n))+jH xs ns ms≤3006*(xs.length+1)
  omega
theorem m9 {α:Type}{n i:Nat}{x y:α} (h:(List.replicate n x)[i]? =some y):y=x:=by
 obtain⟨h1,h2⟩:=List.getElem?_eq_some_iff.1 h
 rw [List.getElem_replicate] at h2;exact h2.symm
theorem Ts {C:cF} (hok:C.Ok) {g:Int} (hg:1≤g):(s0 C.nc).Ok C g:=by
 have hlen:∀x∈C.acts,x.2.2.length≤100:=fun x hx=>by
  obtain⟨j,hj,e⟩:=List.getElem_of_mem hx
  exact hok.len j x (by rw [List.getElem?_eq_getElem hj,e])
 have hn:=hok.n
 have hnc:=hok.nc
 refine⟨by simp [s0],by simp [s0],by simp [s0],by simp [s0],?_,nofun,?_,?_,⟨(by decide:(0:Int)≤1),hg⟩,⟨Int.le_refl 0,?_⟩,List.nodup_nil⟩
 · intro j x nj a m v hx h1 h2 h3 h4
   cases m9 h1;cases m9 h2;cases m9 h3;cases m9 h4
   exact⟨Nat.zero_le _,.inl rfl,fun _=>rfl,nofun,trivial,Nat.le_refl _,nofun,xh,by simp [bS,s0,σ0,fL,Cs.walk]⟩
 · intro i j t _ h
   have:=m9 h
   cases this
 · show 0+ic C.acts _≤1000
   have:=sZ C.acts (List.replicate C.nc 0) hlen
   show 0+ic C.acts (List.replicate C.nc 0)≤1000
   omega
 · show(0:Int)+((jH C.acts (List.replicate C.nc 0) (List.replicate C.nc fL):Nat):Int)≤1000000
   have:=rX C.acts (List.replicate C.nc 0) (List.replicate C.nc fL) hlen
   omega
section
variable {C:cF}{p:Lm}{u:Tu}
theorem fh {n m q:Nat} (hn:q≠n) (hm:q≠m):dL n m q=some q:=by
 unfold dL
 rw [if_neg hn,if_neg hm]
theorem wL {n m:Nat}{H H':Heap} (hk:cu (aY H)=true) (h:∀q∈H',∃r∈H,dL n m r.1=some q.1∧az (r.2.bC (dL n m)) q.2):ia n m H H':=fun k c hc=>by
 obtain⟨s,d,q1,q2,q3⟩:=pP hk h k c hc
 exact⟨s,d,q2,q1,q3⟩
theorem Sc (k:Nat):di (List.replicate k 0)=List.replicate k (.int .i64 0):=by simp [di]
theorem QQ (k:Nat):ints (List.replicate k (-1))=List.replicate k (.int .i64 (-1)):=by simp [ints]
theorem L7 {v:List Value}{B:Nat}{w0 w1:World}{S:List Nat}{k:Nat}{T:List Value} (h1:1≤k) (h8:k≤8):Conv Tryz.prog (I:=Unit) (32+4*k) 65 (nG B w0 S w1 v++dW p.s p.q p.c p.d p.e p.g k) T (fun _=>dV B w0 S w1 v p k 64 0 []) (fun _=>T):=by
 have hk:cu (aY (nG B w0 S w1 v++dW p.s p.q p.c p.d p.e p.g k))=true:=by
  have hk2:k=1∨k=2∨k=3∨k=4∨k=5∨k=6∨k=7∨k=8:=by omega
  rcases hk2 with rfl|rfl|rfl|rfl|rfl|rfl|rfl|rfl <;> rfl
 refine zF (m:=64) (X:=ad []) (fun _ _=>trivial) (by omega) (by decide) fun i c hc=> ?_
 have hm:=get_mem hc
 have hrow:iw k []=(List.range k).map fun i=> .pointer (some ⟨33+4*i,0,none⟩):=by
  unfold iw;rw [List.range_eq_range'];rfl
 unfold dV dq at hm
 rw [hrow,Nat.sub_zero] at hm
 rcases List.mem_append.1 hm with hm|hm
 · simp only [List.mem_cons,List.not_mem_nil,or_false,Prod.mk.injEq] at hm
   have aq:∀ {i c},(i,c)∈nG B w0 S w1 v++dW p.s p.q p.c p.d p.e p.g k→(nG B w0 S w1 v++dW p.s p.q p.c p.d p.e p.g k).get i=some c:=fun h=>get_of_mem hk h
   rcases hm with⟨rfl,rfl⟩|⟨rfl,rfl⟩|⟨rfl,rfl⟩|⟨rfl,rfl⟩|⟨rfl,rfl⟩|⟨rfl,rfl⟩|⟨rfl,rfl⟩|⟨rfl,rfl⟩
   · exact .inr (aq (by simp [nG]))
   · exact .inr (aq (by simp [nG]))
   · exact .inr (aq (by simp [nG]))
   · exact .inr (aq (by simp [nG,dW]))
   · exact .inr (aq (by simp [nG,dW]))
   · exact .inr (aq (by simp [nG,dW,sr]))
   · exact .inr (aq (by simp [nG,dW]))
   · exact .inl ⟨rfl,rfl⟩
 · refine .inr (get_of_mem hk (List.mem_append_right _ ?_))
   unfold dW
   exact List.mem_append_right _ hm
theorem sy {nm:Nat→Option Nat}{l:List Value} (h:dG l) {t:TypeId}:az (Chunk.bC nm (.cells l t)) (.cells l t):=bq h nm
theorem qb {v:Value} (h:eB v) (n:Nat):dG (List.replicate n v):=fun i x hx=>by cases m9 hx;exact h
theorem ND {B:Nat}{w0 w1:World}{S:List Nat}{v row:List Value}{Y:aG}{k:Nat} (h1:1≤k) (h8:k≤8):cu (aY (dq B w0 S w1 v k 90 (64+k) row Y++dy p σ0))=true:=by
 have hk2:k=1∨k=2∨k=3∨k=4∨k=5∨k=6∨k=7∨k=8:=by omega
 rcases hk2 with rfl|rfl|rfl|rfl|rfl|rfl|rfl|rfl <;> rfl
theorem Mx {T:List Value} (hok:C.Ok) (hnc:1≤C.nc):Conv Tryz.prog (I:= {c:List (Nat×Nat) // c.length=C.nc}) (32+4*C.nc) 100 (nG C.B C.w0 C.S C.w1 (dj p C.QB C.nc C.qc u)++dW p.s p.q p.c p.d p.e p.g C.nc) T (fun c=>gN (C.with c.1) p u) (fun _=>T):=by
 have h8:=hok.nc
 have hA:∀k:Nat,qO k (k - k)= []:=fun k=>by rw [Nat.sub_self];rfl
 have e1:∀cl: {c:List (Nat×Nat) // c.length=C.nc},Conv Tryz.prog (I:=Unit) (65+C.nc) 91 (dV C.B C.w0 C.S C.w1 (dj p C.QB C.nc C.qc u) p C.nc (64+C.nc) C.nc cl.1) T
   (fun _=>dq C.B C.w0 C.S C.w1 (dj p C.QB C.nc C.qc u) C.nc 90 (64+C.nc) (cP cl.1) (ad (dN 0 cl.1 (List.replicate C.nc fL)))++dy p σ0) (fun _=>T):=fun cl=>by
  have hrow:=JP cl.2
  refine iD (n:=31+4*C.nc) (m:=90) (by omega) (by decide) (wL (H':=dq C.B C.w0 C.S C.w1 (dj p C.QB C.nc C.qc u) C.nc 90 (64+C.nc) (cP cl.1) (ad (dN 0 cl.1 (List.replicate C.nc fL)))++dy p σ0) (yO (B:=C.B) (w0:=C.w0) (S:=C.S) (w1:=C.w1) (v:=dj p C.QB C.nc C.qc u) (p:=p) (row:=iw C.nc cl.1) (Y:=ad (dN 0 cl.1 (List.replicate C.nc fL))) hnc h8 (Nat.le_refl _) (.inl rfl)) fun q hq=> ?_)
  · rcases List.mem_append.1 hq with hq|hq
    · simp only [dq,List.mem_cons,List.not_mem_nil,or_false] at hq
      have aq:∀ {r:Nat×Chunk},r∈dq C.B C.w0 C.S C.w1 (dj p C.QB C.nc C.qc u) C.nc (31+4*C.nc) (64+C.nc) (iw C.nc cl.1) (ad (dN 0 cl.1 (List.replicate C.nc fL)))→r∈dq C.B C.w0 C.S C.w1 (dj p C.QB C.nc C.qc u) C.nc (31+4*C.nc) (64+C.nc) (iw C.nc cl.1) (ad (dN 0 cl.1 (List.replicate C.nc fL)))++(qO C.nc (C.nc - C.nc)++dy p σ0):=fun h=>List.mem_append_left _ h
      rcases hq with rfl|rfl|rfl|rfl|rfl|rfl|rfl|rfl
      · exact⟨(0,.args C.B C.w0),aq (by simp [dq]),fh (by omega) (by omega),.args⟩
      · exact⟨(1,.froz C.S C.w1),aq (by simp [dq]),fh (by omega) (by omega),.froz⟩
      · exact⟨(4,.cells (dj p C.QB C.nc C.qc u) 27),aq (by simp [dq]),fh (by omega) (by omega),.cells (.same rfl (.same rfl (.same rfl (.same rfl (.same rfl (.same rfl (.same rfl (.same (jT u _).symm .nil))))))))⟩
      · exact⟨(29,.cells (List.replicate C.nc (.int .i64 0)) 3),aq (by simp [dq]),fh (by omega) (by omega),sy (qb (cE _ _) _)⟩
      · exact⟨(30,.cells (List.replicate C.nc (.int .i64 (-1))) 3),aq (by simp [dq]),fh (by omega) (by omega),sy (qb (cE _ _) _)⟩
      · refine⟨(31,sr C.nc (31+4*C.nc)),aq (by simp [dq]),fh (by omega) (by omega),?_⟩
        have hx:dL (31+4*C.nc) 90 (31+4*C.nc)=some 90:=by unfold dL;rw [if_pos rfl]
        simp [sr,Chunk.bC,ao,hx,fh (n:=31+4*C.nc) (m:=90) (q:=15) (by omega) (by omega),fh (n:=31+4*C.nc) (m:=90) (q:=27) (by omega) (by omega),fh (n:=31+4*C.nc) (m:=90) (q:=29) (by omega) (by omega),fh (n:=31+4*C.nc) (m:=90) (q:=30) (by omega) (by omega)]
        all_goals exact az.refl _
      · refine⟨(31+4*C.nc,.cells (iw C.nc cl.1) 58),aq (by simp [dq]),by unfold dL;rw [if_pos rfl],?_⟩
        rw [hrow];exact bq (bG _) _
      · exact⟨(64+C.nc,.sem _),aq (by simp [dq]),fh (by omega) (by omega),.sem⟩
    · obtain⟨g1,g2⟩:=rZ (nm:=dL (31+4*C.nc) 90) (fun n hn=>fh (by omega) (by omega)) q hq
      exact⟨q,List.mem_append_right _ (List.mem_append_right _ hq),g1,g2⟩
 have e2:∀cl: {c:List (Nat×Nat) // c.length=C.nc},Conv Tryz.prog (I:=Unit) 91 92 (dq C.B C.w0 C.S C.w1 (dj p C.QB C.nc C.qc u) C.nc 90 (64+C.nc) (cP cl.1) (ad (dN 0 cl.1 (List.replicate C.nc fL)))++dy p σ0) T
   (fun _=>gN (C.with cl.1) p u) (fun _=>T):=fun cl=>by
  refine iD (n:=64+C.nc) (m:=91) (by decide) (by decide) (wL (ND hnc h8) fun q hq=> ?_)
  · unfold gN at hq
    have aq:∀ {r:Nat×Chunk},r∈dq C.B C.w0 C.S C.w1 (dj p C.QB C.nc C.qc u) C.nc 90 (64+C.nc) (cP cl.1) (ad (dN 0 cl.1 (List.replicate C.nc fL)))→r∈dq C.B C.w0 C.S C.w1 (dj p C.QB C.nc C.qc u) C.nc 90 (64+C.nc) (cP cl.1) (ad (dN 0 cl.1 (List.replicate C.nc fL)))++dy p σ0:=fun h=>List.mem_append_left _ h
    have hlow:∀q,q < 64∨q=90→dL (64+C.nc) 91 q=some q:=fun q hq=>fh (by omega) (by omega)
    rcases List.mem_append.1 hq with hq|hq
    · simp only [List.mem_cons,List.not_mem_nil,or_false] at hq
      rcases hq with rfl|rfl|rfl|rfl|rfl|rfl|rfl|rfl
      · exact⟨(0,.args C.B C.w0),aq (by simp [dq]),hlow 0 (by decide),.args⟩
      · exact⟨(1,.froz C.S C.w1),aq (by simp [dq]),hlow 1 (by decide),.froz⟩
      · exact⟨(4,.cells (dj p C.QB C.nc C.qc u) 27),aq (by simp [dq]),hlow 4 (by decide),.cells (.any (.any (.any (.any (.any (.any (.same rfl (.same (jT u _).symm .nil))))))))⟩
      · exact⟨(64+C.nc,.sem (ad (dN 0 cl.1 (List.replicate C.nc fL)))),aq (by simp [dq]),by unfold dL;rw [if_pos rfl],.sem⟩
      · refine⟨(31,sr C.nc 90),aq (by simp [dq]),hlow 31 (by decide),?_⟩
        simp [sr,sX,Chunk.bC,ao,hlow 15 (by decide),hlow 27 (by decide),hlow 29 (by decide),hlow 30 (by decide),hlow 90 (by decide)]
        all_goals exact az.refl _
      · refine⟨(29,.cells (List.replicate C.nc (.int .i64 0)) 3),aq (by simp [dq]),hlow 29 (by decide),?_⟩
        show az _ (.cells (di (List.replicate C.nc 0)) 3)
        rw [Sc];exact sy (qb (cE _ _) _)
      · refine⟨(30,.cells (List.replicate C.nc (.int .i64 (-1))) 3),aq (by simp [dq]),hlow 30 (by decide),?_⟩
        show az _ (.cells (ints (List.replicate C.nc (-1))) 3)
        rw [QQ];exact sy (qb (cE _ _) _)
      · exact⟨(90,.cells (cP cl.1) 58),aq (by simp [dq]),hlow 90 (by decide),bq (bG _) _⟩
    · obtain⟨g1,g2⟩:=rZ (nm:=dL (64+C.nc) 91) (fun n hn=>hlow n (by omega)) q hq
      exact⟨q,List.mem_append_right _ hq,g1,g2⟩
 have f1:=((L7 (p:=p) (v:=dj p C.QB C.nc C.qc u) (B:=C.B) (w0:=C.w0) (S:=C.S) (w1:=C.w1) (T:=T) hnc h8).trans (by omega) (by omega) fun _=>yn (B:=C.B) (w0:=C.w0) (w1:=C.w1) (S:=C.S) (v:=dj p C.QB C.nc C.qc u) (p:=p) (T:=T) h8 C.nc [] (by simp))
 have f2:=(f1.trans (by omega) (by omega) fun i=>e1 i.2).trans (by omega) (by decide) fun i=>e2 i.1.2
 have f3:=f2.less (f:=fun i=>i.1.1.2) (H'':=fun c=>gN (C.with c.1) p u) (T'':=fun _=>T) (fun _ _ _ h=>h) fun _=>rfl
 refine⟨fun r ow w hs hf=> ?_⟩
 obtain⟨i,r1,ow1,a1,a2,a3,a4,a5,a6⟩:=f3.conv r ow w hs (hf.sub (Nat.le_refl _) (by decide))
 exact⟨i,r1,ow1,a1,a2,⟨fun n h=>(a3.1 n h).imp id fun q=>⟨q.1,Nat.lt_of_lt_of_le q.2 (by decide)⟩,fun n h=>(a3.2 n h).imp id fun q=>⟨q.1,Nat.lt_of_lt_of_le q.2 (by decide)⟩⟩,fun b n e=>(a4 b n e).imp id fun q=>⟨q.1,Nat.lt_of_lt_of_le q.2 (by decide)⟩,a5,a6⟩
end
end
section
open Go Go.Sx
def opsOf:Code→Array Oper
 | .region _ ops _=>ops
 |_=> #[]
def mP:List Oper→Nat→Oper
 | [],_=>⟨none,.nilCheck (.tmp 0),0, "", #[],none⟩
 |o::_,0=>o
 |_::l,k+1=>mP l k
theorem Ru:bA 6= .seq (bD [0] (bA 6)) (.seq (bD [1,0] (bA 6)) (.seq (.seq (bD [1,1,0,0] (bA 6)) (.block 0 (.loop uR))) (bD [1,1,1] (bA 6)))):=by kernel_rfl
section
variable {C:cF}{p:Lm}{u:Tu}{nx:List Nat}{at_:List Int}{l:List Value}{ck:Int}{nt:Nat}{Y Z:aG}{σ:eQ}
set_option maxRecDepth 100000
abbrev Pb:List (Nat×Value):= [(2,.pointer (some ⟨31,0,none⟩)),(3,.bool true)]
theorem PK {tc:Nat}:ab Tryz.prog 100 (gN C p ⟨none,0,tc⟩) 100 (gN C p ⟨none,0,tc⟩) (.code (bD [1,1,0,0] (bA 6)) (ay 30 0 [(1,.pointer (some ⟨4,0,none⟩)),(4,.pointer (some ⟨31,0,none⟩))])) (.out .normal (ay 30 0 (my ⟨none,0,tc⟩ 0))):=
 fj mixed ar (C:=cz) (n:=600) (d:= []) (l:=my ⟨none,0,tc⟩ 0) (by kernel_rfl) vN
theorem OA {x:Nat×Nat}{tn tc:Nat}:ab Tryz.prog 100 (gN C p ⟨some x,tn,tc⟩) 100 (gN C p ⟨some x,tn,tc⟩) (.code (bD [1,1,0,0] (bA 6)) (ay 30 0 [(1,.pointer (some ⟨4,0,none⟩)),(4,.pointer (some ⟨31,0,none⟩))])) (.out .normal (ay 30 0 (my ⟨some x,tn,tc⟩ 0))):=
 fj mixed ar (C:=cz) (n:=600) (d:= []) (l:=my ⟨some x,tn,tc⟩ 0) (by kernel_rfl) vN
theorem QR (htp:u.tp=none→u.tn=0):ab Tryz.prog 100 (gN C p u) 100 (gN C p u) (.code (bD [1,1,0,0] (bA 6)) (ay 30 0 [(1,.pointer (some ⟨4,0,none⟩)),(4,.pointer (some ⟨31,0,none⟩))])) (.out .normal (ay 30 0 (my u 0))):=by
 obtain⟨tp,tn,tc⟩:=u
 cases tp with
 |none=>have:tn=0:=htp rfl
        subst this;exact PK
 |some x=>exact OA
noncomputable def jG:Array Oper:=opsOf (bD [1,1,1,0] (bA 6))
theorem Sr:bD [1,1,1] (bA 6)= .seq (.region 7 jG false) (bD [1,1,1,1] (bA 6)):=by kernel_rfl
theorem Qr:jG.toList=jG.toList.take 3++mP jG.toList 3::jG.toList.drop 4:=by kernel_rfl
theorem I9:(mP jG.toList 3).guard=none:=by kernel_rfl
theorem O1:(mP jG.toList 3).dst=some 29:=by kernel_rfl
abbrev Cj (C:cF) (u:Tu):List (Nat×Value):=my u u.tn++ [(26,.pointer (some ⟨31,0,none⟩)),(27,.pointer (some ⟨31,0,none⟩)),(28,.agg ⟨ff C u⟩)]
theorem PO {tf:Tf}:l4 (ee Tryz.prog (gn Tryz.prog cz 600) jG.toList (jG.toList.take 3) (ay 30 0 (my u u.tn)) [] (bb 600 (gZ C p u 4 101 100 nx at_ tf ck Y Z σ)))=some (ay 30 0 (Cj C u),600,gZ C p u 4 101 100 nx at_ tf ck Y Z σ,[]):=by kernel_rfl
theorem Pr {H:Heap}:sq (c9 Tryz.prog (ay 30 0 (Cj C u)) (mP jG.toList 3) [] (bb 600 H))=some (22,[.pointer (some ⟨31,0,none⟩),.agg ⟨ff C u⟩],600,H,[]):=by kernel_rfl
theorem OS {H:Heap}:l4 (ee Tryz.prog (gn Tryz.prog cz 600) jG.toList (jG.toList.drop 4) (jj (ay 30 0 (Cj C u)) (some 29) (.bool true)) [] (bb 1200 H))=some (ay 30 0 (Cj C u++ [(29,.bool true),(2,.pointer (some ⟨31,0,none⟩)),(3,.bool true)]),1200,H,[]):=by kernel_rfl
theorem PX {H:Heap}:ab Tryz.prog 1200 H 1200 H (.code (bD [1,1,1,1] (bA 6)) (ay 30 0 (Cj C u++ [(29,.bool true),(2,.pointer (some ⟨31,0,none⟩)),(3,.bool true)]))) (.out .ret (ay 30 0 Pb)):=
 fj mixed ar (C:=cz) (n:=600) (d:= []) (by kernel_rfl) vN
theorem Lh (hok:C.Ok) (hnc:1≤C.nc) (hthr:(C.nc:Int)≤p.c) (hg:1≤p.g) (top:p.g < 9223372036854775808) (hv:aW (gV p.s p.q p.c p.d p.e p.g)) (htn:u.tn < 4000000000) (htp:u.tp=none→u.tn=0) (htu:∀x,u.tp=some x→∀i,i < u.tn→∃v:Nat,v < 256∧aZ C.B C.w0 x.1 (x.2+i*1) [.int .u8 (v:Nat)]):
  oW Tryz.prog 4 (NW C.B C.w0 C.S C.w1) 1200 (hS C p) 6 [.agg ⟨dj p C.QB C.nc C.qc u⟩] (.tuple ⟨[.pointer (some ⟨31,0,none⟩),.bool true]⟩):=by
 have h8:=hok.nc
 obtain⟨body,hbd⟩:∃body,Tryz.f6.body=some body:=⟨_,rfl⟩
 have e:body=bA 6:=by
  unfold bA
  rw [Tryz.func6]
  simp only [hbd]
 refine Am (T2:=ay 30 0 Pb) (t1:=2) (t2:=3) (fn:=Tryz.f6) (body:=body) Tryz.func6 hbd rfl ?_ rfl rfl
 rw [e]
 refine qN Ru (eE (yC PZ fun r us h=>C9 (n:=30) (Nat.le_of_ble_eq_true rfl) h (fun i=>Sz i)) ?_)
 refine eE (Px hv C.nc hnc h8) (uY (c1:=100) (by omega) (by decide) (Mx hok hnc) fun cl=> ?_)
 have hok':=hok.with cl.2
 have hloop:dh Tryz.prog 100 (gN (C.with cl.1) p u) 600 (fun s': {s // RS.Ok (C.with cl.1) p.g s}=>gS (C.with cl.1) p u 4 101 100 s'.1) (.block 0 (.loop uR)) (ay 30 0 (my u 0)) .normal (fun _=>ay 30 0 (my u u.tn)):=by
  refine kC (by decide) (je (J:=Unit) (cm':=102) (by decide) (by decide) (zF (m:=100) (X:=ad (gq (List.replicate C.nc (.slice none 0 0,0)))) (fun w S=> ?_) (by decide) (by decide) (H':=gS (C.with cl.1) p u 4 101 100 (s0 C.nc)) fun i c hc=> ?_) fun _=>MM hok' hthr top hnc htn htp htu u.tn 0 (s0 C.nc) (by omega) (Nat.zero_le _) (Ts hok' hg))
  · rw [show gq (List.replicate C.nc (.slice none 0 0,0))=List.replicate C.nc (ie Tryz.prog 188 (.slice none 0 0) 0) by simp [gq]]
    exact pM _
  · have hm:=get_mem hc
    have hk:cu (aY (gN (C.with cl.1) p u))=true:=rfl
    have aq:∀ {i c},(i,c)∈gN (C.with cl.1) p u→(gN (C.with cl.1) p u).get i=some c:=fun h=>get_of_mem hk h
    unfold gS gZ at hm
    rcases List.mem_append.1 hm with hm|hm
    · rcases List.mem_append.1 hm with hm|hm
      · simp only [List.mem_cons,List.not_mem_nil,or_false,Prod.mk.injEq] at hm
        rcases hm with⟨rfl,rfl⟩|⟨rfl,rfl⟩|⟨rfl,rfl⟩|⟨rfl,rfl⟩|⟨rfl,rfl⟩|⟨rfl,rfl⟩|⟨rfl,rfl⟩|⟨rfl,rfl⟩|⟨rfl,rfl⟩
        · exact .inr rfl
        · exact .inr rfl
        · exact .inr rfl
        · exact .inr rfl
        · exact .inr rfl
        · exact .inr rfl
        · exact .inr rfl
        · exact .inr rfl
        · exact .inl ⟨rfl,rfl⟩
      · cases hm
    · exact .inr (aq (List.mem_append_right _ hm))
 have hlast:∀i: {s // RS.Ok (C.with cl.1) p.g s},dh Tryz.prog 600 (gS (C.with cl.1) p u 4 101 100 i.1) 1200 (hS C p) (bD [1,1,1] (bA 6)) (ay 30 0 (my u u.tn)) .ret (fun _=>ay 30 0 Pb):=fun i=>by
  have hcall:=I1 (u:=u) hok' hthr top i.2
  refine qN Sr (lM (uK mixed ar (C:=cz) (n:=600) Qr I9 PO Pr hcall (T3:=ay 30 0 (Cj (C.with cl.1) u++ [(29,.bool true),(2,.pointer (some ⟨31,0,none⟩)),(3,.bool true)])) (fun σ=> ?_) (Nat.le_refl _)) (Nat.le_refl _) fun σ=>PX)
  rw [O1];exact OS
 exact va (eE (QR htp) hloop) (by decide) hlast
end
end
end Go.Proofs.YtalanookmohdeaaGreatDoor
