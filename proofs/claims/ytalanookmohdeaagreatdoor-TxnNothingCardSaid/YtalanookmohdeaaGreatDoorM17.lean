/- TxnNothing: the walk. No condition. -/
import Derived.Test.YtalanookmohdeaaGreatDoorProg
import Derived.WalkKit
import Derived.LaidEql
import Derived.Stop.Asserts
import Derived.RowKitTokens
import Derived.KernelRfl
import Derived.Below
import Derived.Test.YtalanookmohdeaaGreatDoorM16
import Derived.Test.YtalanookmohdeaaGreatDoorM10
import Derived.Test.YtalanookmohdeaaGreatDoorM8
import Derived.Test.YtalanookmohdeaaGreatDoorM6
import Derived.Test.YtalanookmohdeaaGreatDoorM4
namespace Go.Proofs.YtalanookmohdeaaGreatDoor
open Go Go.Sx
def eB (v:Value):Prop:=ed v=true∧∀nm,ao nm 9 v=v
theorem cE (k:IntKind) (n:Int):eB (.int k n):=⟨rfl,fun _=>rfl⟩
theorem cX (b:Bool):eB (.bool b):=⟨rfl,fun _=>rfl⟩
theorem uX:eB (.slice none 0 0):=⟨rfl,fun _=>rfl⟩
theorem Ey {b o k l c:Nat}:eB (.slice (some ⟨b,o,some k⟩) l c):=⟨rfl,fun _=>rfl⟩
theorem EA {b o k:Nat}:eB (.pointer (some ⟨b,o,some k⟩)):=⟨rfl,fun _=>rfl⟩
def dG (l:List Value):Prop:=∀(i:Nat) v,l[i]? =some v→eB v
def jy (l:List Value) (p:Nat):Prop:=∀(i:Nat) v,i≠p→l[i]? =some v→eB v
theorem dG.b {l:List Value} (h:dG l) (p:Nat):jy l p:=fun i v _ e=>h i v e
theorem gd {l:List Value} (h:dG l) (nm:Nat→Option Nat):l.map (ao nm 9)=l:=by
 apply List.ext_getElem?
 intro i
 rw [List.getElem?_map]
 cases e:l[i]? with
 |none=>rfl
 |some v=>simp [(h i v e).2]
theorem nQ {l:List Value}{p:Nat} (h:jy l p) {v:Value} (hp:l[p]? =some v) {nm:Nat→Option Nat} (hv:ao nm 9 v=v):l.map (ao nm 9)=l:=by
 apply List.ext_getElem?
 intro i
 rw [List.getElem?_map]
 by_cases q:i=p
 · subst q;rw [hp];simp [hv]
 · cases e:l[i]? with
   |none=>rfl
   |some v=>simp [(h i v q e).2]
theorem bB (l:List Value) (p:Nat) (v:Value):aH l p [v]=l.set p v:=rfl
theorem u6 {l:List Value}{p:Nat} (h:jy l p) {v x:Value} (hp:l[p]? =some v) {nm:Nat→Option Nat} (hx:ao nm 9 x=v):(l.set p x).map (ao nm 9)=l:=by
 apply List.ext_getElem?
 intro i
 rw [List.getElem?_map,List.getElem?_set]
 have hlt:=(List.getElem?_eq_some_iff.1 hp).1
 by_cases q:p=i
 · subst q;rw [if_pos rfl,if_pos hlt,hp];simp [hx]
 · rw [if_neg q]
   cases e:l[i]? with
   |none=>rfl
   |some v=>simp [(h i v (fun e=>q e.symm) e).2]
theorem iA {l:List Value}{p q:Nat} (h:jy l p) {x:Value} (hx:eB x):jy (l.set q x) p:=fun i v hi e=>by
 rw [List.getElem?_set] at e
 split at e
 · split at e
   · cases e;exact hx
   · cases e
 · exact h i v hi e
theorem zw {l:List Value}{q:Nat} (h:dG l) {x:Value} (hx:eB x):dG (l.set q x):=fun i v e=>by
 rw [List.getElem?_set] at e
 split at e
 · split at e
   · cases e;exact hx
   · cases e
 · exact h i v e
theorem v7 {l:List Value}{p:Nat} (h:jy l p) {x:Value} (hx:eB x):dG (l.set p x):=fun i v e=>by
 rw [List.getElem?_set] at e
 split at e
 · split at e
   · cases e;exact hx
   · cases e
 · rename_i q;exact h i v (fun e=>q e.symm) e
theorem Mq {l:List Value}{p:Nat} (h:dG l) {x:Value}:jy (l.set p x) p:=fun i v hi e=>by
 rw [List.getElem?_set] at e
 split at e
 · rename_i q;exact absurd q.symm hi
 · exact h i v e
theorem qw {l l2:List Value} (h:dG l) (h2:dG l2):dG (l++l2):=fun i v e=>by
 rw [List.getElem?_append] at e
 split at e
 · exact h i v e
 · exact h2 _ v e
theorem ot:dG []:=fun i v e=>by simp at e
theorem cW {x:Value}{l:List Value} (hx:eB x) (h:dG l):dG (x::l):=fun i v e=>by
 cases i with
 |zero=>simp at e;subst e;exact hx
 |succ i=>exact h i v (by simpa using e)
theorem kK (j:Nat) (ck:Int) (rd:Bool):dG (lF j ck rd):=
 cW (cE _ _) (cW (cE _ _) (cW (cE _ _) (cW (cE _ _) (cW (cX _) (cW (cX _) (cW (cX _) (cW uX (cW (cE _ _) (cW (cE _ _) ot)))))))))
theorem ny {α:Type}{f:α→Value} (h:∀x,eB (f x)):∀l:List α,dG (l.map f)
 | []=>ot
 |_::l=>cW (h _) (ny h l)
theorem eK (l:List Nat):dG (di l):=ny (fun _=>cE _ _) l
theorem bQ (l:List Int):dG (ints l):=ny (fun _=>cE _ _) l
def cP (l:List (Nat×Nat)):List Value:=l.map fun p=> .pointer (some ⟨p.1,0,some p.2⟩)
theorem bG (l:List (Nat×Nat)):dG (cP l):=ny (fun _=>EA) l
theorem Tz {l:List Value}{p:Nat}{v:Value} (h:l[p]? =some v):List.take 1 (List.drop p l)= [v]:=by
 obtain⟨h1,h2⟩:=List.getElem?_eq_some_iff.1 h
 rw [List.drop_eq_getElem_cons h1,h2];rfl
theorem oJ {l:List Value}{j:Nat}{v:Value} (h:l[j]? =some v):List.take 1 (List.drop (0+j*1) l)= [v]∧1=1:=⟨by rw [Nat.zero_add,Nat.mul_one];exact Tz h,rfl⟩
theorem ei {l:List Value}{t k:Nat}{v:Value} (h:l[10*t+k]? =some v):List.take 1 (List.drop (0+t*10+k) l)= [v]∧1=1:=⟨by rw [Nat.zero_add,Nat.mul_comm];exact Tz h,rfl⟩
theorem fB (t k:Nat):0+t*10+k=10*t+k:=by omega
theorem pE {nx:List Nat}{j n:Nat} (h:nx[j]? =some n):(di nx)[j]? =some (.int .i64 (Int.ofNat n)):=by simp [di,h]
theorem ints_at {l:List Int}{j:Nat}{n:Int} (h:l[j]? =some n):(ints l)[j]? =some (.int .i64 n):=by simp [ints,h]
theorem Ja {nx:List Nat}{j n:Nat} (hn:n < 4000000000):aH (di nx) (0+j*1) [.int .i64 (IntKind.i64.wrap (Int.ofNat n+1))]=di (nx.set j (n+1)):=by
 rw [bB,Nat.zero_add,Nat.mul_one,wrap64 (n:=Int.ofNat n+1) (by simp;omega) (by simp;omega)]
 show(List.map _ nx).set j _=List.map _ (nx.set j (n+1))
 rw [List.map_set];rfl
theorem ints_set {l:List Int}{j:Nat}{n:Int}:aH (ints l) (0+j*1) [.int .i64 n]=ints (l.set j n):=by
 rw [bB,Nat.zero_add,Nat.mul_one]
 show(List.map _ l).set j _=List.map _ (l.set j n)
 rw [List.map_set]
theorem fE {a b:List Value} (h:b=a):aj a b:=by subst h;exact aj.refl _
theorem Jw {l:List Value}{j:Nat} (h:j < l.length):cK (0+j*1+1) l=true:=pV (by omega)
theorem eJ {l:List Value}{t k:Nat} (h:10*t+k < l.length):cK (0+t*10+k+1) l=true:=pV (by omega)
theorem Sv {n:Nat} (h:n≤10000):bz n 80=true:=Nat.ble_eq_true_of_le (by omega)
theorem jB {n:Nat} (h:n≤10000):bz n 128=true:=Nat.ble_eq_true_of_le (by omega)
section
open Go Go.RowKit Go.Extern.Stop Go.Stop Go.Extern
def As.valueOf:Array Value→Sem Value:=fun args=>ReflectliteValue.unpack (args.getD 0 (.tuple #[]))
theorem As.Kw (b:Nat) (w:World):(As.valueOf #[.iface 232 (.pointer (some ⟨b,0,none⟩))]).run Tryz.prog w= .ok (.agg #[.pointer (some ⟨1,232,none⟩),.pointer (some ⟨w.heap.size,0,none⟩),.int .u64 150]) { w with heap:=w.heap.push (.cells #[.pointer (some ⟨b,0,none⟩)] 232)}:=by kernel_rfl
theorem As.KS (n:Int) (w:World):(As.valueOf #[.iface 72 (.int .i64 n)]).run Tryz.prog w= .ok (.agg #[.pointer (some ⟨1,72,none⟩),.pointer (some ⟨w.heap.size,0,none⟩),.int .u64 130]) { w with heap:=w.heap.push (.cells #[.int .i64 n] 72)}:=by kernel_rfl
def As.type:Array Value→Sem Value:=ReflectliteValue.methodAny (ReflectliteValue.valueError "reflectlite.Value.Type" 0) fun t _ _ _=>ReflectliteType.toType t
theorem As.t54 (k:Nat) (w:World):(As.type #[.agg #[.pointer (some ⟨1,232,none⟩),.pointer (some ⟨k,0,none⟩),.int .u64 150]]).run Tryz.prog w= .ok (.iface 288 (.agg #[.pointer (some ⟨1,232,none⟩)])) w:=by kernel_rfl
theorem As.typeOf (v:Value) (w:World):(Extern.ReflectliteType.typeOf #[.iface 72 v]).run Tryz.prog w= .ok (.iface 288 (.agg #[.pointer (some ⟨1,72,none⟩)])) w:=by kernel_rfl
def As.elem:Array Value→Sem Value:=ReflectliteType.method ReflectliteType.elem
theorem As.GJ (w:World):(As.elem #[.agg #[.pointer (some ⟨1,232,none⟩)]]).run Tryz.prog w= .ok (.iface 288 (.agg #[.pointer (some ⟨1,72,none⟩)])) w:=by kernel_rfl
def As.impl:Array Value→Sem Value:=ReflectliteType.relation "Implements" ReflectliteType.implements_
theorem As.FX (w:World):(As.impl #[.agg #[.pointer (some ⟨1,72,none⟩)],.iface 288 (.agg #[.pointer (some ⟨1,40,none⟩)])]).run Tryz.prog w= .ok (.bool true) w:=by kernel_rfl
def As.assign:Array Value→Sem Value:=ReflectliteType.relation "AssignableTo" ReflectliteType.assignableTo
theorem As.zd (w:World):(As.assign #[.agg #[.pointer (some ⟨1,72,none⟩)],.iface 288 (.agg #[.pointer (some ⟨1,72,none⟩)])]).run Tryz.prog w= .ok (.bool true) w:=by kernel_rfl
def As.kind:Array Value→Sem Value:=ReflectliteType.abiMethod fun t=>do pure (.int .u8 (←Rtype.kind t))
theorem As.GC (w:World):(As.kind #[.pointer (some ⟨1,232,none⟩)]).run Tryz.prog w= .ok (.int .u8 22) w:=by kernel_rfl
theorem As.FW (w:World):(As.kind #[.pointer (some ⟨1,72,none⟩)]).run Tryz.prog w= .ok (.int .u8 2) w:=by kernel_rfl
theorem As.MI (k:Nat) (w:World):(ReflectliteValue.parts (.agg #[.pointer (some ⟨1,232,none⟩),.pointer (some ⟨k,0,none⟩),.int .u64 150])).run Tryz.prog w= .ok (some (232,⟨k,0,none⟩,150)) w:=by kernel_rfl
theorem As.Rn (w:World):(isAgg 232).run Tryz.prog w= .ok false w:=by kernel_rfl
theorem As.MJ (k b:Nat) (w:World) (h:w.cell? ⟨k,0,none⟩=some (.pointer (some ⟨b,0,none⟩))):(ReflectliteValue.isNil 232 ⟨k,0,none⟩ 150 22).run Tryz.prog w= .ok (.bool false) w:=by
 simp [ReflectliteValue.isNil,loadVar,load,Sem.run,h]
def As.isNil:Array Value→Sem Value:=ReflectliteValue.method (ReflectliteValue.valueError "reflectlite.Value.IsNil" 0) ReflectliteValue.isNil
set_option maxRecDepth 100000 in
theorem As.Kq (k b:Nat) (w:World) (h:w.cell? ⟨k,0,none⟩=some (.pointer (some ⟨b,0,none⟩))):(As.isNil #[.agg #[.pointer (some ⟨1,232,none⟩),.pointer (some ⟨k,0,none⟩),.int .u64 150]]).run Tryz.prog w= .ok (.bool false) w:=by
 have e:=As.MJ k b w h
 show(ReflectliteValue.parts (.agg #[.pointer (some ⟨1,232,none⟩),.pointer (some ⟨k,0,none⟩),.int .u64 150]) >>= fun o=>match o with
  |none=>ReflectliteValue.valueError "reflectlite.Value.IsNil" 0
  |some (t,a,fl)=>ReflectliteValue.isNil t a fl (fl % 32)).run Tryz.prog w=_
 rw [Sem.run_bind,As.MI]
 exact e
theorem As.UA (b:Nat) (w:World):(ReflectliteValue.mk 72 ⟨b,0,none⟩ 256).run Tryz.prog w= .ok (.agg #[.pointer (some ⟨1,72,none⟩),.pointer (some ⟨b,0,none⟩),.int .u64 386]) w:=by kernel_rfl
theorem As.Js (w:World):(Rtype.elem? 232).run Tryz.prog w= .ok (some 72) w:=by kernel_rfl
set_option maxRecDepth 100000 in
theorem As.JW (k b:Nat) (w:World) (h:w.cell? ⟨k,0,none⟩=some (.pointer (some ⟨b,0,none⟩))):(ReflectliteValue.elem 232 ⟨k,0,none⟩ 150 22).run Tryz.prog w= .ok (.agg #[.pointer (some ⟨1,72,none⟩),.pointer (some ⟨b,0,none⟩),.int .u64 386]) w:=by
 have e1:=As.UA b w
 have e2:=As.Js w
 have e3:=As.Rn w
 have e4:(loadVar 232 ⟨k,0,none⟩).run Tryz.prog w= .ok (.pointer (some ⟨b,0,none⟩)) w:=by
  simp only [loadVar,Sem.run_bind,e3,Result.andThen_ok,Bool.false_eq_true,if_false]
  simp [load,Sem.run,h]
 show((loadVar 232 ⟨k,0,none⟩ >>= fun v=>Rtype.elem? 232 >>= fun e=>match (22:Nat),v,e with
  |20,i,_=>ReflectliteValue.unpack i
  |22,.pointer none,_=>pure ReflectliteValue.zeroV
  |22,.pointer (some p),some e=>ReflectliteValue.mk e p 256
  |_,_,_=>ReflectliteValue.valueError "reflectlite.Value.Elem" 22):Sem Value).run Tryz.prog w=_
 rw [Sem.run_bind,e4]
 simp only [Result.andThen_ok]
 rw [Sem.run_bind,e2]
 simp only [Result.andThen_ok]
 exact e1
def As.elemV:Array Value→Sem Value:=ReflectliteValue.method (ReflectliteValue.valueError "reflectlite.Value.Elem" 0) ReflectliteValue.elem
set_option maxRecDepth 100000 in
theorem As.Mw (k:Nat) (w:World):(As.elemV #[.agg #[.pointer (some ⟨1,232,none⟩),.pointer (some ⟨k,0,none⟩),.int .u64 150]]).run Tryz.prog w=(ReflectliteValue.elem 232 ⟨k,0,none⟩ 150 22).run Tryz.prog w:=by kernel_rfl
set_option maxRecDepth 100000 in
theorem As.Di (k b:Nat) (w:World) (h:w.cell? ⟨k,0,none⟩=some (.pointer (some ⟨b,0,none⟩))):(As.elemV #[.agg #[.pointer (some ⟨1,232,none⟩),.pointer (some ⟨k,0,none⟩),.int .u64 150]]).run Tryz.prog w= .ok (.agg #[.pointer (some ⟨1,72,none⟩),.pointer (some ⟨b,0,none⟩),.int .u64 386]) w:=
 (As.Mw k w).trans (As.JW k b w h)
theorem As.OB (w:World):(sizeOf 72).run Tryz.prog w= .ok 1 w:=by kernel_rfl
theorem As.Qy (b k:Nat) (w:World):(ReflectliteValue.set #[.agg #[.pointer (some ⟨1,72,none⟩),.pointer (some ⟨b,0,none⟩),.int .u64 386],.agg #[.pointer (some ⟨1,72,none⟩),.pointer (some ⟨k,0,none⟩),.int .u64 130]]).run Tryz.prog w=
  (load ⟨k,0,none⟩ >>= fun v=>storeVar 72 ⟨b,0,none⟩ v >>= fun _=>pure (.tuple #[]):Sem Value).run Tryz.prog w:=by kernel_rfl
theorem As.K1 (b k:Nat) (n:Int) (x:Value) (w:World) (hk:w.cell? ⟨k,0,none⟩=some (.int .i64 n)) (hb:w.cell? ⟨b,0,none⟩=some x) (hf:w.frozen? ⟨b,0,none⟩=false):
  (ReflectliteValue.set #[.agg #[.pointer (some ⟨1,72,none⟩),.pointer (some ⟨b,0,none⟩),.int .u64 386],.agg #[.pointer (some ⟨1,72,none⟩),.pointer (some ⟨k,0,none⟩),.int .u64 130]]).run Tryz.prog w= .ok (.tuple #[]) (w.setCell ⟨b,0,none⟩ (.int .i64 n)):=by
 rw [As.Qy]
 have e4:(load ⟨k,0,none⟩).run Tryz.prog w= .ok (.int .i64 n) w:=by simp [load,Sem.run,hk]
 have e5:(storeVar 72 ⟨b,0,none⟩ (.int .i64 n)).run Tryz.prog w= .ok () (w.setCell ⟨b,0,none⟩ (.int .i64 n)):=by
  simp only [storeVar,Sem.run_bind,As.OB,Result.andThen_ok]
  simp [Value.cells,storeCells]
  rw [run_store_int,show(⟨b,0,none⟩:Addr).add 0=⟨b,0,none⟩ from rfl]
  simp [stored,hb,hf]
 rw [Sem.run_bind,e4]
 simp only [Result.andThen_ok,Sem.run_bind,e5]
 rfl
end
section
open Go Go.RowKit Go.Extern.Stop Go.Stop Go.Extern
theorem As.K2 (t:Nat) (w:World):(Go.method 525 288 (.agg #[.pointer (some ⟨1,t,none⟩)]) "Kind").run Tryz.prog w= .ok (317,.pointer (some ⟨1,t,none⟩)) w:=by kernel_rfl
theorem As.KT (v:Value) (w:World):(Go.method 525 288 v "Elem").run Tryz.prog w= .ok (332,v) w:=by kernel_rfl
theorem As.K8 (v:Value) (w:World):(Go.method 525 288 v "Implements").run Tryz.prog w= .ok (333,v) w:=by kernel_rfl
theorem As.Dt (v:Value) (w:World):(Go.method 525 288 v "AssignableTo").run Tryz.prog w= .ok (330,v) w:=by kernel_rfl
set_option maxRecDepth 100000 in
set_option maxHeartbeats 1000000 in
theorem MC (n:Int) (b:Nat) (w:World) (hb:w.cell? ⟨b,0,none⟩=some (.int .i64 0)) (hf:w.frozen? ⟨b,0,none⟩=false) (hE:w.cell? ⟨0,0,none⟩=some (.iface 288 (.agg #[.pointer (some ⟨1,40,none⟩)]))):
  Calls Tryz.prog 112 #[.iface 72 (.int .i64 n),.iface 232 (.pointer (some ⟨b,0,none⟩))] w fun e w'=>e= .returned (.bool true)∧w'.cell? ⟨b,0,none⟩=some (.int .i64 n)∧w'.os=w.os∧w'.tape=w.tape∧w'.output=w.output∧w.heap.size≤w'.heap.size∧∀k,k < w.heap.size→k≠b→w'.heap[k]? =w.heap[k]? :=by
 have h32:= @run_callFunc_extern Tryz.prog 142 _ As.valueOf Tryz.func142 (by kernel_rfl) (by kernel_rfl) (by kernel_rfl) (by kernel_rfl)
 have h33:= @run_callFunc_extern Tryz.prog 143 _ As.type Tryz.func143 (by kernel_rfl) (by kernel_rfl) (by kernel_rfl) (by kernel_rfl)
 have h122:= @run_callFunc_extern Tryz.prog 317 _ As.kind Tryz.func317 (by kernel_rfl) (by kernel_rfl) (by kernel_rfl) (by kernel_rfl)
 have h393:= @run_callFunc_extern Tryz.prog 332 _ As.elem Tryz.func332 (by kernel_rfl) (by kernel_rfl) (by kernel_rfl) (by kernel_rfl)
 have h394:= @run_callFunc_extern Tryz.prog 333 _ As.impl Tryz.func333 (by kernel_rfl) (by kernel_rfl) (by kernel_rfl) (by kernel_rfl)
 have h34:= @run_callFunc_extern Tryz.prog 144 _ As.isNil Tryz.func144 (by kernel_rfl) (by kernel_rfl) (by kernel_rfl) (by kernel_rfl)
 have n54:=fun k w=>As.Kq k b w
 have Kw:=As.Kw
 have t54:=As.t54
 have mK:=As.K2
 have mE:=As.KT
 have mI:=As.K8
 have k54:=As.GC
 have k28:=As.FW
 have e54:=As.GJ
 have i28:=As.FX
 have h0:0 < w.heap.size:=by
  refine Nat.lt_of_not_le fun q=> ?_
  have:w.heap[0]? =none:=Array.getElem?_eq_none q
  simp [World.cell?,this] at hE
 have hE1:(w.alloc (.cells #[.pointer (some ⟨b,0,none⟩)] 232)).cell? ⟨0,0,none⟩=some (.iface 288 (.agg #[.pointer (some ⟨1,40,none⟩)])):=by
  rw [World.cell?_alloc_past _ _ _ h0];exact hE
 have hE2:∀o,((w.alloc (.cells #[.pointer (some ⟨b,0,none⟩)] 232)).alloc o).cell? ⟨0,0,none⟩=some (.iface 288 (.agg #[.pointer (some ⟨1,40,none⟩)])):=fun o=>by
  rw [World.cell?_alloc_past _ _ _ (Nat.lt_of_lt_of_le h0 (by show _≤(w.heap.push _).size;simp))];exact hE1
 have mA:=As.Dt
 go_enter Tryz.func112,Tryz.ntmps112
 have h26:= @run_callFunc_extern Tryz.prog 168 _ Extern.ReflectliteType.typeOf Tryz.func168 (by kernel_rfl) (by kernel_rfl) (by kernel_rfl) (by kernel_rfl)
 have h391:= @run_callFunc_extern Tryz.prog 330 _ As.assign Tryz.func330 (by kernel_rfl) (by kernel_rfl) (by kernel_rfl) (by kernel_rfl)
 have h54:= @run_callFunc_extern Tryz.prog 169 _ As.elemV Tryz.func169 (by kernel_rfl) (by kernel_rfl) (by kernel_rfl) (by kernel_rfl)
 have h55:= @run_callFunc_extern Tryz.prog 170 _ ReflectliteValue.set Tryz.func170 (by kernel_rfl) (by kernel_rfl) (by kernel_rfl) (by kernel_rfl)
 have hsz:∀(w:World) (o:Obj),(w.alloc o).heap.size=w.heap.size+1:=fun w o=>by show(w.heap.push o).size=_;simp
 have hb0:b < w.heap.size:=by
  refine Nat.lt_of_not_le fun q=> ?_
  have:w.heap[b]? =none:=Array.getElem?_eq_none q
  simp [World.cell?,this] at hb
 have eV:=fun o1 o2=>As.Di w.heap.size b (((w.alloc (.cells #[.pointer (some ⟨b,0,none⟩)] 232)).alloc o1).alloc o2) (by
  rw [World.cell?_alloc_past _ _ _ (by rw [hsz,hsz];omega),World.cell?_alloc_past _ _ _ (by rw [hsz];omega),World.cell?_alloc_at _ _ _ _ rfl];rfl)
 have s28:=fun o1 o2=>As.K1 b (w.heap.size+1+1+1) n (.int .i64 0) ((((w.alloc (.cells #[.pointer (some ⟨b,0,none⟩)] 232)).alloc o1).alloc o2).alloc (.cells #[.int .i64 n] 72))
  (by rw [World.cell?_alloc_at _ _ _ _ (by rw [hsz,hsz,hsz])];rfl)
  (by rw [World.cell?_alloc_past _ _ _ (by rw [hsz,hsz,hsz];omega),World.cell?_alloc_past _ _ _ (by rw [hsz,hsz];omega),World.cell?_alloc_past _ _ _ (by rw [hsz];omega),World.cell?_alloc_past _ _ _ hb0];exact hb)
  (by rw [World.frozen?_alloc_past _ _ _ (by rw [hsz,hsz,hsz];omega),World.frozen?_alloc_past _ _ _ (by rw [hsz,hsz];omega),World.frozen?_alloc_past _ _ _ (by rw [hsz];omega),World.frozen?_alloc_past _ _ _ hb0];exact hf)
 have tO:=As.typeOf
 have a28:=As.zd
 have KS:∀w:World,(As.valueOf #[.iface 72 (.int .i64 n)]).run Tryz.prog w= .ok (.agg #[.pointer (some ⟨1,72,none⟩),.pointer (some ⟨w.heap.size,0,none⟩),.int .u64 130]) (w.alloc (.cells #[.int .i64 n] 72)):=fun w=>As.KS n w
 go_wp2
 refine Go.Sx.mT (Go.Sx.eR ?_)
 go_wp2
 go_ret
 have hp:∀(w:World) (o:Obj) (k:Nat),k < w.heap.size→(w.alloc o).heap[k]? =w.heap[k]? :=fun w o k h=>by
  show(w.heap.push o)[k]? =_
  simp [Array.getElem?_push,Nat.ne_of_lt h]
 refine⟨rfl,?_,rfl,rfl,rfl,?_,fun k hk hkb=> ?_⟩
 · refine World.cell?_setCell_same _ _ _ (?_:_=some (.int .i64 0))
   rw [World.cell?_alloc_past _ _ _ (by rw [hsz,hsz,hsz];omega),World.cell?_alloc_past _ _ _ (by rw [hsz,hsz];omega),World.cell?_alloc_past _ _ _ (by rw [hsz];omega),World.cell?_alloc_past _ _ _ hb0];exact hb
 · rw [World.size_setCell,hsz,hsz,hsz,hsz];omega
 · rw [Below.heap_setCell _ _ _ _ hkb,hp _ _ _ (by rw [hsz,hsz,hsz];omega),hp _ _ _ (by rw [hsz,hsz];omega),hp _ _ _ (by rw [hsz];omega),hp _ _ _ hk]
end
section
open Go Go.RowKit Go.Extern.Stop Go.Stop Go.Extern
theorem As.Nn (v:Value) (w:World):(Extern.ReflectliteType.typeOf #[.iface 201 v]).run Tryz.prog w= .ok (.iface 288 (.agg #[.pointer (some ⟨1,201,none⟩)])) w:=by kernel_rfl
theorem As.Ng (w:World):(As.assign #[.agg #[.pointer (some ⟨1,201,none⟩)],.iface 288 (.agg #[.pointer (some ⟨1,72,none⟩)])]).run Tryz.prog w= .ok (.bool false) w:=by kernel_rfl
theorem As.Q4 (v:Value) (xT:TypeId) (w:World):(Instr.typeAssert (.iface 201 v) xT 293 true).run Tryz.prog w= .ok (.tuple #[.nilIface,.bool false]) w:=run_typeAssert_lacksB Tryz.underlying293 (by kernel_rfl) (by kernel_rfl) v xT w
set_option maxRecDepth 100000 in
set_option maxHeartbeats 1000000 in
theorem I2 (n:Int) (f1 o1 f2 o2 b:Nat) (w:World) (hc1:w.cell? ⟨f1,o1+2,none⟩=some (.iface 201 (.pointer (some ⟨f2,o2,none⟩)))) (hc2:w.cell? ⟨f2,o2+2,none⟩=some (.iface 72 (.int .i64 n))) (hb:w.cell? ⟨b,0,none⟩=some (.int .i64 0)) (hf:w.frozen? ⟨b,0,none⟩=false) (hE:w.cell? ⟨0,0,none⟩=some (.iface 288 (.agg #[.pointer (some ⟨1,40,none⟩)]))):
  Calls Tryz.prog 112 #[.iface 201 (.pointer (some ⟨f1,o1,none⟩)),.iface 232 (.pointer (some ⟨b,0,none⟩))] w fun e w'=>e= .returned (.bool true)∧w'.cell? ⟨b,0,none⟩=some (.int .i64 n)∧w'.os=w.os∧w'.tape=w.tape∧w'.output=w.output∧w.heap.size≤w'.heap.size∧∀k,k < w.heap.size→k≠b→w'.heap[k]? =w.heap[k]? :=by
 have h32:= @run_callFunc_extern Tryz.prog 142 _ As.valueOf Tryz.func142 (by kernel_rfl) (by kernel_rfl) (by kernel_rfl) (by kernel_rfl)
 have h33:= @run_callFunc_extern Tryz.prog 143 _ As.type Tryz.func143 (by kernel_rfl) (by kernel_rfl) (by kernel_rfl) (by kernel_rfl)
 have h122:= @run_callFunc_extern Tryz.prog 317 _ As.kind Tryz.func317 (by kernel_rfl) (by kernel_rfl) (by kernel_rfl) (by kernel_rfl)
 have h393:= @run_callFunc_extern Tryz.prog 332 _ As.elem Tryz.func332 (by kernel_rfl) (by kernel_rfl) (by kernel_rfl) (by kernel_rfl)
 have h394:= @run_callFunc_extern Tryz.prog 333 _ As.impl Tryz.func333 (by kernel_rfl) (by kernel_rfl) (by kernel_rfl) (by kernel_rfl)
 have h34:= @run_callFunc_extern Tryz.prog 144 _ As.isNil Tryz.func144 (by kernel_rfl) (by kernel_rfl) (by kernel_rfl) (by kernel_rfl)
 have n54:=fun k w=>As.Kq k b w
 have Kw:=As.Kw
 have t54:=As.t54
 have mK:=As.K2
 have mE:=As.KT
 have mI:=As.K8
 have k54:=As.GC
 have k28:=As.FW
 have e54:=As.GJ
 have i28:=As.FX
 have h0:0 < w.heap.size:=by
  refine Nat.lt_of_not_le fun q=> ?_
  have:w.heap[0]? =none:=Array.getElem?_eq_none q
  simp [World.cell?,this] at hE
 have hE1:(w.alloc (.cells #[.pointer (some ⟨b,0,none⟩)] 232)).cell? ⟨0,0,none⟩=some (.iface 288 (.agg #[.pointer (some ⟨1,40,none⟩)])):=by
  rw [World.cell?_alloc_past _ _ _ h0];exact hE
 have hE2:∀o,((w.alloc (.cells #[.pointer (some ⟨b,0,none⟩)] 232)).alloc o).cell? ⟨0,0,none⟩=some (.iface 288 (.agg #[.pointer (some ⟨1,40,none⟩)])):=fun o=>by
  rw [World.cell?_alloc_past _ _ _ (Nat.lt_of_lt_of_le h0 (by show _≤(w.heap.push _).size;simp))];exact hE1
 have mA:=As.Dt
 have hsz:∀(w:World) (o:Obj),(w.alloc o).heap.size=w.heap.size+1:=fun w o=>by show(w.heap.push o).size=_;simp
 have ltc:∀(w:World) (x o:Nat) (v:Value),w.cell? ⟨x,o,none⟩=some v→x < w.heap.size:=fun w x o v h=>by
  refine Nat.lt_of_not_le fun q=> ?_
  have:w.heap[x]? =none:=Array.getElem?_eq_none q
  simp [World.cell?,this] at h
 have g1:=ltc _ _ _ _ hc1
 have g2:=ltc _ _ _ _ hc2
 have d1:∀o o',(((w.alloc (.cells #[.pointer (some ⟨b,0,none⟩)] 232)).alloc o).alloc o').cell? ⟨f1,o1+2,none⟩=some (.iface 201 (.pointer (some ⟨f2,o2,none⟩))):=fun o o'=>by
  rw [World.cell?_alloc_past _ _ _ (Nat.lt_of_lt_of_le g1 (by rw [hsz,hsz];omega)),World.cell?_alloc_past _ _ _ (Nat.lt_of_lt_of_le g1 (by rw [hsz];omega)),World.cell?_alloc_past _ _ _ g1];exact hc1
 have d2:∀o o',(((w.alloc (.cells #[.pointer (some ⟨b,0,none⟩)] 232)).alloc o).alloc o').cell? ⟨f2,o2+2,none⟩=some (.iface 72 (.int .i64 n)):=fun o o'=>by
  rw [World.cell?_alloc_past _ _ _ (Nat.lt_of_lt_of_le g2 (by rw [hsz,hsz];omega)),World.cell?_alloc_past _ _ _ (Nat.lt_of_lt_of_le g2 (by rw [hsz];omega)),World.cell?_alloc_past _ _ _ g2];exact hc2
 have tOF:=As.Nn
 have aF:=As.Ng
 have nAF:=As.Q4
 have hF:=Is.zQ
 have mU:=Is.sg
 go_enter Tryz.func112,Tryz.ntmps112
 have h26:= @run_callFunc_extern Tryz.prog 168 _ Extern.ReflectliteType.typeOf Tryz.func168 (by kernel_rfl) (by kernel_rfl) (by kernel_rfl) (by kernel_rfl)
 have h391:= @run_callFunc_extern Tryz.prog 330 _ As.assign Tryz.func330 (by kernel_rfl) (by kernel_rfl) (by kernel_rfl) (by kernel_rfl)
 have h54:= @run_callFunc_extern Tryz.prog 169 _ As.elemV Tryz.func169 (by kernel_rfl) (by kernel_rfl) (by kernel_rfl) (by kernel_rfl)
 have h55:= @run_callFunc_extern Tryz.prog 170 _ ReflectliteValue.set Tryz.func170 (by kernel_rfl) (by kernel_rfl) (by kernel_rfl) (by kernel_rfl)
 have hb0:b < w.heap.size:=by
  refine Nat.lt_of_not_le fun q=> ?_
  have:w.heap[b]? =none:=Array.getElem?_eq_none q
  simp [World.cell?,this] at hb
 have eV:=fun o1 o2=>As.Di w.heap.size b (((w.alloc (.cells #[.pointer (some ⟨b,0,none⟩)] 232)).alloc o1).alloc o2) (by
  rw [World.cell?_alloc_past _ _ _ (by rw [hsz,hsz];omega),World.cell?_alloc_past _ _ _ (by rw [hsz];omega),World.cell?_alloc_at _ _ _ _ rfl];rfl)
 have s28:=fun o1 o2=>As.K1 b (w.heap.size+1+1+1) n (.int .i64 0) ((((w.alloc (.cells #[.pointer (some ⟨b,0,none⟩)] 232)).alloc o1).alloc o2).alloc (.cells #[.int .i64 n] 72))
  (by rw [World.cell?_alloc_at _ _ _ _ (by rw [hsz,hsz,hsz])];rfl)
  (by rw [World.cell?_alloc_past _ _ _ (by rw [hsz,hsz,hsz];omega),World.cell?_alloc_past _ _ _ (by rw [hsz,hsz];omega),World.cell?_alloc_past _ _ _ (by rw [hsz];omega),World.cell?_alloc_past _ _ _ hb0];exact hb)
  (by rw [World.frozen?_alloc_past _ _ _ (by rw [hsz,hsz,hsz];omega),World.frozen?_alloc_past _ _ _ (by rw [hsz,hsz];omega),World.frozen?_alloc_past _ _ _ (by rw [hsz];omega),World.frozen?_alloc_past _ _ _ hb0];exact hf)
 have tO:=As.typeOf
 have a28:=As.zd
 have KS:∀w:World,(As.valueOf #[.iface 72 (.int .i64 n)]).run Tryz.prog w= .ok (.agg #[.pointer (some ⟨1,72,none⟩),.pointer (some ⟨w.heap.size,0,none⟩),.int .u64 130]) (w.alloc (.cells #[.int .i64 n] 72)):=fun w=>As.KS n w
 go_wp2
 refine Go.Sx.mT (Go.Sx.eR ?_)
 go_wp2
 refine Go.Sx.eR ?_
 go_wp2
 refine Go.Sx.eR ?_
 go_wp2
 go_ret
 have hp:∀(w:World) (o:Obj) (k:Nat),k < w.heap.size→(w.alloc o).heap[k]? =w.heap[k]? :=fun w o k h=>by
  show(w.heap.push o)[k]? =_
  simp [Array.getElem?_push,Nat.ne_of_lt h]
 refine⟨rfl,?_,rfl,rfl,rfl,?_,fun k hk hkb=> ?_⟩
 · refine World.cell?_setCell_same _ _ _ (?_:_=some (.int .i64 0))
   rw [World.cell?_alloc_past _ _ _ (by rw [hsz,hsz,hsz];omega),World.cell?_alloc_past _ _ _ (by rw [hsz,hsz];omega),World.cell?_alloc_past _ _ _ (by rw [hsz];omega),World.cell?_alloc_past _ _ _ hb0];exact hb
 · rw [World.size_setCell,hsz,hsz,hsz,hsz];omega
 · rw [Below.heap_setCell _ _ _ _ hkb,hp _ _ _ (by rw [hsz,hsz,hsz];omega),hp _ _ _ (by rw [hsz,hsz];omega),hp _ _ _ (by rw [hsz];omega),hp _ _ _ hk]
end
section
open Go Go.RowKit Go.Extern.Stop Go.Stop Go.Extern
def nY (w:World):Prop:=w.cell? ⟨0,0,none⟩=some (.iface 288 (.agg #[.pointer (some ⟨1,40,none⟩)]))
set_option maxRecDepth 100000 in
set_option maxHeartbeats 1000000 in
theorem GO (n:Int) (w:World) (hE:w.cell? ⟨0,0,none⟩=some (.iface 288 (.agg #[.pointer (some ⟨1,40,none⟩)]))):
  Calls Tryz.prog 82 #[.iface 72 (.int .i64 n)] w fun e w'=>e= .returned (.int .i64 n)∧Sx.Old w w':=by
 have h0:0 < w.heap.size:=by
  refine Nat.lt_of_not_le fun q=> ?_
  have:w.heap[0]? =none:=Array.getElem?_eq_none q
  simp [World.cell?,this] at hE
 have hA:=MC n w.heap.size (w.alloc (.cells #[.int .i64 0] 72)) (by rw [World.cell?_alloc_at _ _ _ _ rfl];rfl) (World.frozen?_alloc_at _ _ _ _ rfl) (by rw [World.cell?_alloc_past _ _ _ h0];exact hE)
 go_enter Tryz.func82,Tryz.ntmps82
 go_wp2_with (first
  |(go_at_call 112;refine hA.mono ?_;rintro e w' ⟨rfl,hc,ho,ht,hp,hs,hk⟩)
  |go_in)
 go_ret
 have hsz:(w.alloc (.cells #[.int .i64 0] 72)).heap.size=w.heap.size+1:=by show(w.heap.push _).size=_;simp
 refine⟨rfl,ho,ht,hp,by omega,fun k hk'=> ?_⟩
 rw [hk k (by omega) (by omega)]
 show(w.heap.push _)[k]? =_
 simp [Array.getElem?_push,Nat.ne_of_lt hk']
set_option maxRecDepth 100000 in
set_option maxHeartbeats 1000000 in
theorem vm (n:Int) (f1 o1 f2 o2:Nat) (w:World) (hc1:w.cell? ⟨f1,o1+2,none⟩=some (.iface 201 (.pointer (some ⟨f2,o2,none⟩)))) (hc2:w.cell? ⟨f2,o2+2,none⟩=some (.iface 72 (.int .i64 n))) (hE:w.cell? ⟨0,0,none⟩=some (.iface 288 (.agg #[.pointer (some ⟨1,40,none⟩)]))):
  Calls Tryz.prog 82 #[.iface 201 (.pointer (some ⟨f1,o1,none⟩))] w fun e w'=>e= .returned (.int .i64 n)∧Sx.Old w w':=by
 have h0:0 < w.heap.size:=by
  refine Nat.lt_of_not_le fun q=> ?_
  have:w.heap[0]? =none:=Array.getElem?_eq_none q
  simp [World.cell?,this] at hE
 have ltc:∀(x o:Nat) (v:Value),w.cell? ⟨x,o,none⟩=some v→x < w.heap.size:=fun x o v h=>by
  refine Nat.lt_of_not_le fun q=> ?_
  have:w.heap[x]? =none:=Array.getElem?_eq_none q
  simp [World.cell?,this] at h
 have hA:=I2 n f1 o1 f2 o2 w.heap.size (w.alloc (.cells #[.int .i64 0] 72)) (by rw [World.cell?_alloc_past _ _ _ (ltc _ _ _ hc1)];exact hc1) (by rw [World.cell?_alloc_past _ _ _ (ltc _ _ _ hc2)];exact hc2) (by rw [World.cell?_alloc_at _ _ _ _ rfl];rfl) (World.frozen?_alloc_at _ _ _ _ rfl) (by rw [World.cell?_alloc_past _ _ _ h0];exact hE)
 go_enter Tryz.func82,Tryz.ntmps82
 go_wp2_with (first
  |(go_at_call 112;refine hA.mono ?_;rintro e w' ⟨rfl,hc,ho,ht,hp,hs,hk⟩)
  |go_in)
 go_ret
 have hsz:(w.alloc (.cells #[.int .i64 0] 72)).heap.size=w.heap.size+1:=by show(w.heap.push _).size=_;simp
 refine⟨rfl,ho,ht,hp,by omega,fun k hk'=> ?_⟩
 rw [hk k (by omega) (by omega)]
 show(w.heap.push _)[k]? =_
 simp [Array.getElem?_push,Nat.ne_of_lt hk']
set_option maxRecDepth 100000 in
theorem xU (w:World):Calls Tryz.prog 82 #[.nilIface] w fun e w'=>e= .returned (.int .i64 0)∧w'=w.alloc (.cells #[.int .i64 0] 72):=by
 go_enter Tryz.func82,Tryz.ntmps82
 go_wp2
 go_ret
 exact⟨rfl,rfl⟩
theorem Jn:Sx.cQ Tryz.prog 82 [.nilIface] (.int .i64 0):=by
 intro r us w hu
 obtain⟨us⟩:=us
 cases hu with
 |cons x t=>
  cases t
  cases x
  refine(xU w).mono fun e w' ⟨he,hw⟩=>⟨_,he,.int _ _,?_⟩
  subst hw
  exact⟨rfl,rfl,rfl,by show _≤(w.heap.push _).size;simp,fun k hk=>by show(w.heap.push _)[k]? =_;simp [Array.getElem?_push,Nat.ne_of_lt hk]⟩
theorem Ht {c:Nat}{h:Sx.Heap}:Sx.ab Tryz.prog c h c h (.call 82 [.nilIface]) (.val (.int .i64 0)):=
 ⟨Nat.le_refl _,fun r ow w hs _ us hu=>Calls.mono (Jn r us w hu) fun _ _ ⟨u,he,hv,ho⟩=>⟨r,ow,u,he,Sx.aN.old hs ho,hv⟩⟩
theorem C0 {r:Sx.Env}{ow:Nat→Option Nat}{h:Sx.Heap}{w w0:World}{B:Nat} (hs:Sx.Sat Tryz.prog r ow h w) (h0:h.get 0=some (.args B w0)) (hB:0 < B) (hg:nY w0):nY w:=by
 have:=(hs.chunk 0 _ h0 0 hB).2
 unfold nY World.cell? at hg ⊢
 rw [this];exact hg
theorem FE {c:Nat}{h:Sx.Heap}{w0:World}{B:Nat}{n:Int} (h0:h.get 0=some (.args B w0)) (hB:0 < B) (hg:nY w0):Sx.ab Tryz.prog c h c h (.call 82 [.iface 72 (.int .i64 n)]) (.val (.int .i64 n)):=by
 refine⟨Nat.le_refl _,fun r ow w hs _ us hu=> ?_⟩
 obtain⟨us⟩:=us
 cases hu with
 |cons x t=>
  cases t
  cases x with
  |iface x=>
   cases x
   exact Calls.mono (GO n w (C0 hs h0 hB hg)) fun e w' ⟨he,ho⟩=>⟨r,ow,_,he,Sx.aN.old hs ho,.int _ _⟩
theorem u5 {r:Sx.Env}{ow:Nat→Option Nat}{h:Sx.Heap}{w:World}{n b:Nat}{x y z:Value} (hs:Sx.Sat Tryz.prog r ow h w) (h1:h.get n=some (.cells [x,y,z] 203)) (hb:r.blk n=some b):∃u,w.cell? ⟨b,0+2,none⟩=some u∧Sx.Rel r z u:=by
 obtain⟨b',c,q1,q2,q3,q4,q5,q6⟩:=hs.chunk n _ h1
 obtain rfl:b'=b:=by rw [hb] at q1;exact(Option.some.inj q1).symm
 obtain⟨u,e3,e4⟩:=q4.get 2 _ rfl
 refine⟨u,?_,e4⟩
 rw [Sx.cell_of q3,←Array.getElem?_toList]
 rw [List.getElem?_take] at e3
 split at e3
 · exact e3
 · cases e3
theorem E3 {c:Nat}{h:Sx.Heap}{w0:World}{B n1 n2:Nat}{n:Int}{x y x' y':Value} (h0:h.get 0=some (.args B w0)) (hB:0 < B) (hg:nY w0) (h1:h.get n1=some (.cells [x,y,.iface 201 (.pointer (some ⟨n2,0,none⟩))] 203)) (h2:h.get n2=some (.cells [x',y',.iface 72 (.int .i64 n)] 203)):
  Sx.ab Tryz.prog c h c h (.call 82 [.iface 201 (.pointer (some ⟨n1,0,none⟩))]) (.val (.int .i64 n)):=by
 refine⟨Nat.le_refl _,fun r ow w hs _ us hu=> ?_⟩
 obtain⟨us⟩:=us
 cases hu with
 |cons p t=>
  cases t
  cases p with
  |iface p=>
   cases p with
   |ptr hb=>
    obtain⟨u,hc1,hr⟩:=u5 hs h1 hb
    cases hr with|iface hr=>cases hr with|ptr hb2=>
    obtain⟨u2,hc2,hr2⟩:=u5 hs h2 hb2
    cases hr2 with|iface hr2=>cases hr2 with|int=>
    exact Calls.mono (vm n _ 0 _ 0 w hc1 hc2 (C0 hs h0 hB hg)) fun e w' ⟨he,ho⟩=>⟨r,ow,_,he,Sx.aN.old hs ho,.int _ _⟩
end
section
open Go Go.Sx
abbrev IZ (vv:ByteArray) (th:Bool) (rv er:Value):Value:= .tuple ⟨[.agg ⟨[.string vv,.bool th,rv,.int .i64 0,er]⟩,.nilIface]⟩
section
variable {k:Int}{b kk j:Nat}{L:List aG}
theorem lu {c:Nat}{m:Cs} (hk:L[j]? =some (m.res k b)) (hm:m.isDone=true) (hf:m.gD=false) (hr:∀y nb ws os,m= .inn y nb ws (.rows os)→os.length.beq 0=true) (hc:30≤c):
  ∃vv th,ab Tryz.prog c [(29,.sem (ad L))] c [(29,.sem (ad (L.set j (m.told.res k b))))] (.call 18 [.pointer (some ⟨b,0,some kk⟩)]) (.val (IZ vv th (.slice none 0 0) .nilIface)):=by
 cases m with
 |out y m=>
  cases m <;> first|(cases hm;done)|skip
  exact⟨_,_,aO (Cc hk) hc rfl rfl⟩
 |inn y nb ws m=>
  cases m <;> first|(cases hm;done)|(cases hf;done)|skip
  · exact⟨_,_,aO (Bk hk) hc rfl rfl⟩
  · exact⟨_,_,aO (Ax hk) hc rfl rfl⟩
  · exact⟨_,_,aO (yq (hr _ _ _ _ rfl) hk) hc rfl rfl⟩
theorem Gg {c:Nat}{h1 H':Heap}{f:FuncId}{v0 v:Value} (hc:30≤c) (h:ab Tryz.prog 30 [(29,.sem (ad L))] 400 h1 (.call f [.pointer (some ⟨b,0,some kk⟩)]) (.val v0)) (hout:∀n x,H'.get n=some x→∃i y,h1.get i=some y∧fwd La c 400 i=some n∧az (y.bC (fwd La c 400)) x) (hv:ao (fwd La c 400) 9 v0=v):ab Tryz.prog c [(29,.sem (ad L))] (c+370) H' (.call f [.pointer (some ⟨b,0,some kk⟩)]) (.val v):=by
 refine fp (l:=La) (c:=c) h rfl (fun n hn=> ?_) (by show c+370≤c+370;omega) (fun i zz e=> ?_) (fun r r2 us hb hr=> ?_) (fun n zz e=> .inl (hout n zz e)) (fun r r2 u hb hr=> ?_)
 · have:n < 30:=by simp at hn;omega
   omega
 · rw [aQ] at e
   split at e
   · rename_i q;subst q;cases e
     exact⟨29,_,rfl,rfl,.sem⟩
   simp [Heap.get] at e
 · have:=cV (b9 (r:=r) (r2:=r2) hb 9) hr
   exact this
 · have:=b9 (r:=r) (r2:=r2) hb 9 _ _ hr
   rw [hv] at this;exact this
theorem II {c:Nat}{y:Bool}{nb:Nat}{ws:List Wt}{os:List Rt}{rl:Nat} (hk:L[j]? =some ((Cs.inn y nb ws (.rows os)).res k b)) (hl:os.length=rl+1) (hs:os.length < 1100) (hc:30≤c):
  ab Tryz.prog c [(29,.sem (ad L))] (c+370) [(29,.sem (ad (L.set j ((Cs.inn y nb ws .idle).res k b))))] (.call 18 [.pointer (some ⟨b,0,some kk⟩)]) (.val (IZ ⟨#[]⟩ false (.slice (some ⟨c+33,0,none⟩) (rl+1) 0) .nilIface)):=by
 have h:=yT (kk:=kk) (by rw [hl];rfl) (Nat.ble_eq_true_of_le (by omega)) ⟨by rw [List.drop_zero,List.take_of_length_le (by rw [zC];exact Nat.le_refl _)],zC⟩ (Cw os) hk
 rw [hl] at h
 refine Gg hc h (fun n zz e=> ?_) rfl
 rw [aQ] at e
 split at e
 · rename_i q;subst q;cases e
   exact⟨29,_,rfl,rfl,.sem⟩
 simp [Heap.get] at e
theorem MV {c:Nat}{y:Bool}{nb:Nat}{ws:List Wt} (hk:L[j]? =some ((Cs.inn y nb ws .fault).res k b)) (hc:30≤c):
  ab Tryz.prog c [(29,.sem (ad L))] (c+370) [(29,.sem (ad (L.set j ((Cs.inn y nb ws .idle).res k b)))),(c+5,.cells [.string Fa,.int .i64 k,.iface 201 (.pointer (some ⟨c+6,0,none⟩))] 203),(c+6,.cells [.string ({ data:= #[(99:UInt8),(108:UInt8),(111:UInt8),(99:UInt8),(107:UInt8)]}),.int .i64 0,.iface 72 (.int .i64 5)] 203)]
   (.call 18 [.pointer (some ⟨b,0,some kk⟩)]) (.val (IZ ⟨#[]⟩ false (.slice none 0 0) (.iface 201 (.pointer (some ⟨c+5,0,none⟩))))):=by
 have h:=A9 (kk:=kk) hk
 refine Gg hc h (fun n zz e=> ?_) rfl
 rw [aQ] at e
 split at e
 · rename_i q;subst q;cases e
   exact⟨29,_,rfl,rfl,.sem⟩
 rw [aQ] at e
 split at e
 · rename_i q;subst q;cases e
   exact⟨35,_,rfl,rfl,.cells (aj.refl _)⟩
 rw [aQ] at e
 split at e
 · rename_i q;subst q;cases e
   exact⟨36,_,rfl,rfl,.cells (aj.refl _)⟩
 simp [Heap.get] at e
end
end
section
open Go Go.Sx
structure Ac where
 kd:Int
 rd:Bool
 key:ByteArray
 val:ByteArray
 lo:ByteArray
 hi:ByteArray
 un:Bool
 li:Int
 rv:Bool
def Ac.cells (a:Ac):List Value:= [.int .i64 a.kd,.bool a.rd,.string a.key,.string a.val,.string a.lo,.string a.hi,.bool a.un,.int .i64 a.li,.bool a.rv]
structure cF where
 w0:World
 w1:World
 B:Nat
 S:List Nat
 QB:Nat
 nc:Nat
 qc:Nat
 cl:List (Nat×Nat)
 acts:List (Nat×Nat×List Ac)
structure cF.Ok (C:cF):Prop where
 n:C.acts.length=C.nc
 cl:C.cl.length=C.nc
 nc:C.nc≤8
 q:∀(j:Nat) x,C.acts[j]? =some x→∃AA,(x.2.2≠ []→AA=some ⟨x.1,0,some 27⟩)∧dz C.S C.w1 C.QB (0+j*1) [.slice AA x.2.2.length x.2.1]
 a:∀(j:Nat) x (i:Nat) y,C.acts[j]? =some x→x.2.2[i]? =some y→dz C.S C.w1 x.1 (0+i*9) y.cells
 k6:∀(j:Nat) x (i:Nat) y,C.acts[j]? =some x→x.2.2[i]? =some y→y.kd≠6∧y.lo.data.toList.length≤4294967295
 len:∀(j:Nat) x,C.acts[j]? =some x→x.2.2.length≤100
 B:0 < C.B
 g:nY C.w0
theorem cF.Ok.qn {C:cF} (h:C.Ok) {j AB lc:Nat}{acts:List Ac} (hx:C.acts[j]? =some (AB,lc,acts)) {i:Nat}{a:Ac} (ha:acts[i]? =some a):dz C.S C.w1 C.QB (0+j*1) [.slice (some ⟨AB,0,some 27⟩) acts.length lc]:=by
 obtain⟨AA,h1,h2⟩:=h.q j _ hx
 have:acts≠ []:=fun e=>by subst e;simp at ha
 rw [h1 this] at h2;exact h2
inductive Tf where
 |nil
 |row (nt:Nat) (l:List Value)
def Tf.fK:Tf→Nat
 | .nil=>0
 | .row nt _=>nt
def Tf.val (x:Nat):Tf→Value
 | .nil=> .slice none 0 0
 | .row nt _=> .slice (some ⟨x,0,none⟩) nt 0
def Tf.ch (x:Nat):Tf→Heap
 | .nil=> []
 | .row _ l=> [(x,.cells l 182)]
def mf (nc:Nat) (tv:Value) (ck:Int):Chunk:= .cells [.pointer (some ⟨12,0,none⟩),.pointer (some ⟨24,0,none⟩),.slice (some ⟨45,0,none⟩) nc 0,.slice (some ⟨41,0,none⟩) nc 0,tv,.slice (some ⟨42,0,none⟩) nc 0,.int .i64 ck,.bool false] 51
def bH (C:cF) (nx:List Nat) (at_:List Int) (tf:Tf) (ck:Int) (n:Nat) (Y:aG):Heap:=
 [(0,.args C.B C.w0),(40,mf C.nc (tf.val 71) ck),(41,.cells (di nx) 3),(42,.cells (ints at_) 3),(45,.cells (cP C.cl) 58),(27,.froz C.S C.w1),(29,.sem Y),(70,.cells (mq C.QB C.nc C.qc) 27)]++(tf.ch 71++ [(72,.bag 188 n)])
def Tf.cells:Tf→List Value
 | .nil=> []
 | .row _ l=>l
structure Kp (tf:Tf) (a:Int) (tf':Tf) (a':Int):Prop where
 aq:∀(i:Nat) v,tf.cells[i]? =some v→(∀t:Nat,a=Int.ofNat t→¬(10*t≤i∧i < 10*t+10))→tf'.cells[i]? =some v
 new:∀t:Nat,a'=Int.ofNat t→a=Int.ofNat t∨tf.cells.length≤10*t
 len:tf.cells.length≤tf'.cells.length
theorem Kp.refl (tf:Tf) (a:Int):Kp tf a tf a:=⟨fun _ _ h _=>h,fun _ h=> .inl h,Nat.le_refl _⟩
theorem Kp.trans {tf tf1 tf2:Tf}{a a1 a2:Int} (h:Kp tf a tf1 a1) (k:Kp tf1 a1 tf2 a2):Kp tf a tf2 a2:=by
 refine⟨fun i v hi hn=>k.aq i v (h.aq i v hi hn) fun t ht q=> ?_,fun t ht=> ?_,Nat.le_trans h.len k.len⟩
 · rcases h.new t ht with e|e
   · exact hn t e q
   · have:=(List.getElem?_eq_some_iff.1 hi).1;omega
 · rcases k.new t ht with e|e
   · exact h.new t e
   · exact .inr (Nat.le_trans h.len e)
theorem Kp.Md {tf:Tf} (a':Int):Kp .nil (-1) tf a':=⟨fun i v h _=>(by cases h),fun _ _=> .inr (Nat.zero_le _),Nat.zero_le _⟩
theorem Kp.app {nt nt':Nat}{l l2:List Value} (hl:l.length=nt*10):Kp (.row nt l) (-1) (.row nt' (l++l2)) (Int.ofNat nt):=by
 refine⟨fun i v h _=> ?_,fun t e=> .inr ?_,by show l.length≤(l++l2).length;rw [List.length_append];omega⟩
 · have h':l[i]? =some v:=h
   show(l++l2)[i]? =_
   rw [List.getElem?_append_left (List.getElem?_eq_some_iff.1 h').1];exact h'
 · have:nt=t:=Int.ofNat.inj e
   show l.length≤10*t
   omega
theorem Kp.put {nt t k:Nat}{l:List Value}{x:Value}{a':Int} (hk:k < 10) (ha:a'=Int.ofNat t∨a'= -1):Kp (.row nt l) (Int.ofNat t) (.row nt (l.set (10*t+k) x)) a':=by
 refine⟨fun i v hi hn=> ?_,fun t2 e=> .inl ?_,by show l.length≤(l.set _ _).length;rw [List.length_set];exact Nat.le_refl _⟩
 · have:=hn t rfl
   show(l.set (10*t+k) x)[i]? =_
   rw [List.getElem?_set,if_neg (by omega)];exact hi
 · rcases ha with rfl|rfl
   · exact e
   · cases e
structure fk (sv:Value) (l:List Value) (nt t:Nat) (goal:Bool):Prop where
 len:l.length=nt*10
 lt:t < nt
 rds:l[10*t+4]? =some (.bool goal)
 tir:∃b,l[10*t+6]? =some (.bool b)
 seen:l[10*t+7]? =some sv
 rest:jy l (10*t+7)
def fQ (m:Cs):Bool:=m.inside || (m.bt && m.act==1)
inductive Form (sv:Value):Cs→Int→Tf→Prop where
 |n {m:Cs} (h:fQ m=false):Form sv m (-1) .nil
 |m {m:Cs} {nt:Nat} {l:List Value} (h:fQ m=false) (hs:dG l) (hl:l.length=nt*10):Form sv m (-1) (.row nt l)
 |p {m:Cs} {nt t:Nat} {l:List Value} (h:fQ m=true) (ht:fk sv l nt t m.goal):Form sv m (Int.ofNat t) (.row nt l)
 |k {m:Cs} {nt t:Nat} {l:List Value} (h:m.inside=false) (hp:m.bt=true) (ha:m.act=1) (ht:fk (.slice none 0 0) l nt t m.goal) (hs:dG l):Form sv m (Int.ofNat t) (.row nt l)
theorem xi {kd:Int}{key val lo hi:ByteArray}{un ins rds:Bool} (h:bf kd key val lo hi un ins rds=0):kd=1∨kd=2∨kd=3∨kd=4∨kd=5∨kd=6∨kd=7∨kd=8:=by
 unfold bf at h
 by_cases h1:kd < 1
 · rw [decide_eq_true h1] at h;cases h
 · by_cases h2:kd > 8
   · rw [decide_eq_false h1,decide_eq_true h2] at h;cases h
   · omega
theorem CR {kd:Int}{key val lo hi:ByteArray}{un rds:Bool} (h:bf kd key val lo hi un false rds=0):kd=1∨kd=8:=by
 rcases xi h with rfl|rfl|rfl|rfl|rfl|rfl|rfl|rfl
 · exact .inl rfl
 all_goals first|exact .inr rfl|(change (13:Int)=0 at h;cases h)
theorem N6 {kd:Int}{key val lo hi:ByteArray}{un rds:Bool} (h:bf kd key val lo hi un true rds=0):kd≠1∧kd≠8:=by
 refine⟨fun e=> ?_,fun e=> ?_⟩ <;> subst e <;> change (13:Int)=0 at h <;> cases h
theorem eH {α:Type}{l:List α}{j:Nat}{x:α} (h:l[j]? =some x):l.set j x=l:=by
 apply List.ext_getElem?
 intro n
 rw [List.getElem?_set]
 split
 · rename_i q;subst q
   split
   · exact h.symm
   · rename_i q;rw [List.getElem?_eq_none (by omega)] at h;cases h
 · rfl
theorem fb {α:Type}{l:List α}{j:Nat}{x y:α} (h:l[j]? =some x):(l.set j y)[j]? =some y:=by
 have:=(List.getElem?_eq_some_iff.1 h).1
 rw [List.getElem?_set,if_pos rfl,if_pos this]
theorem cq {m:Cs} (h:m.dB=true):m.bt=false∧m.walk=false∧m.bN=0∧m.goal=m.flag:=by
 cases m with
 |out y m=>cases m <;> first|(cases h;done)|exact⟨rfl,rfl,rfl,rfl⟩
 |inn y nb ws m=>cases m <;> first|(cases h;done)|exact⟨rfl,rfl,rfl,rfl⟩
theorem tI {m:Cs}{now:Int}{u:Nat} (hw:m.wf now u):m.told.dB=true∧m.told.inside=m.inside∧m.told.wf now u∧m.told.bN=0:=by
 cases m with
 |out y m=>exact⟨rfl,rfl,trivial,rfl⟩
 |inn y nb ws m=>exact⟨rfl,rfl,⟨hw.1,hw.2.1,hw.2.2.1,trivial⟩,rfl⟩
theorem wU {m:Cs} (h:m.isDone=true):m.told.goal=m.goal:=by
 cases m with
 |out y m=>cases m <;> first|(cases h;done)|rfl
 |inn y nb ws m=>cases m <;> rfl
end
section
open Go Go.Sx
set_option maxRecDepth 100000 in
theorem RJ:ab Tryz.prog 0 ([]:Heap) 0 ([]:Heap) (.call 84 [.nilIface]) (.val (.bool false)):=
 bh mixed ar (C:=cz) (d:= []) (nn:=600) (by kernel_rfl) vN
set_option maxRecDepth 100000 in
theorem SM {s1 s2:ByteArray}{nu:Int}:ab Tryz.prog 472 [(106,.cells [.string s1,.int .i64 nu,.iface 201 (.pointer (some ⟨107,0,none⟩))] 203),(107,.cells [.string s2,.int .i64 0,.iface 72 (.int .i64 5)] 203)] 472 [(106,.cells [.string s1,.int .i64 nu,.iface 201 (.pointer (some ⟨107,0,none⟩))] 203),(107,.cells [.string s2,.int .i64 0,.iface 72 (.int .i64 5)] 203)] (.call 84 [.iface 201 (.pointer (some ⟨106,0,none⟩))]) (.val (.bool true)):=
 bh mixed ar (C:=cz) (d:= []) (nn:=600) (by kernel_rfl) vN
end
section
open Go Go.Sx
abbrev T0 (j b kk:Nat):List Value:=ay 201 0 [(0,.pointer (some ⟨40,0,none⟩)),(2,.int .i64 (j:Nat)),(4,.pointer (some ⟨70,0,none⟩)),(7,.pointer (some ⟨b,0,some kk⟩))]
abbrev TR (j b kk:Nat):List Value:=ay 201 0 [(0,.pointer (some ⟨40,0,none⟩)),(2,.int .i64 (j:Nat)),(4,.pointer (some ⟨70,0,none⟩)),(6,.bool false),(7,.pointer (some ⟨b,0,some kk⟩))]
theorem cB {j nc:Nat} (h:j < nc):decide ((0:Int)≤(↑j:Int)∧(↑j:Int) < (↑nc:Int))=true:=decide_eq_true ⟨by omega,by omega⟩
theorem cI {j nc:Nat} (h:j < nc):decide ((0:Int)≤Int.ofNat j∧Int.ofNat j < (↑nc:Int))=true:=decide_eq_true ⟨by simp,by simp;omega⟩
theorem iP {j nc:Nat} (h:¬nc≤j):decide (Int.ofNat j≥(↑nc:Int))=false:=decide_eq_false (by simp;omega)
theorem Cy {j nc:Nat} (h:nc≤j):decide (Int.ofNat j≥(↑nc:Int))=true:=decide_eq_true (by simp;omega)
theorem oS (t:Nat):decide (Int.ofNat t≥(0:Int))=true:=decide_eq_true (by simp)
theorem Ef:decide ((-1:Int)≥(0:Int))=false:=rfl
structure Rd (C:cF) (j AB lc:Nat) (acts:List Ac) (b kk nj:Nat) (nx:List Nat) (at_:List Int) (at1:Int) (L:List aG) (m:Cs) (now:Int):Prop where
 ok:C.Ok
 x:C.acts[j]? =some (AB,lc,acts)
 cl:C.cl[j]? =some (b,kk)
 nx:nx[j]? =some nj
 at_:at_[j]? =some at1
 L:L[j]? =some (m.res j b)
section
variable {C:cF}{j AB lc b kk nj:Nat}{acts:List Ac}{nx:List Nat}{at_:List Int}{at1:Int}{L:List aG}{m:Cs}{now:Int}{ck:Int}{n:Nat}
theorem Rd.jn (h:Rd C j AB lc acts b kk nj nx at_ at1 L m now):j < C.nc:=by
 rw [←h.ok.n];exact(List.getElem?_eq_some_iff.1 h.x).1
theorem Rd.r0 (h:Rd C j AB lc acts b kk nj nx at_ at1 L m now):List.take 1 (List.drop (0+j*1) (di nx))= [Value.int IntKind.i64 (Int.ofNat nj)]∧1=1:=oJ (pE h.nx)
theorem Rd.r3 (h:Rd C j AB lc acts b kk nj nx at_ at1 L m now):List.take 1 (List.drop (0+j*1) (ints at_))= [Value.int IntKind.i64 at1]∧1=1:=oJ (ints_at h.at_)
theorem Rd.hx (h:Rd C j AB lc acts b kk nj nx at_ at1 L m now):cK (0+j*1+1) (di nx)=true:=Jw (by simp [di];exact(List.getElem?_eq_some_iff.1 h.nx).1)
theorem Rd.ha (h:Rd C j AB lc acts b kk nj nx at_ at1 L m now):cK (0+j*1+1) (ints at_)=true:=Jw (by simp [ints];exact(List.getElem?_eq_some_iff.1 h.at_).1)
theorem Rd.r1 (h:Rd C j AB lc acts b kk nj nx at_ at1 L m now) {a:Ac} (ha:acts[nj]? =some a):dz C.S C.w1 C.QB (0+j*1) [.slice (some ⟨AB,0,some 27⟩) acts.length lc]∧1=1:=⟨h.ok.qn h.x ha,rfl⟩
theorem Rd.r2 (h:Rd C j AB lc acts b kk nj nx at_ at1 L m now) {a:Ac} (ha:acts[nj]? =some a):dz C.S C.w1 AB (0+nj*9) a.cells∧9=9:=⟨h.ok.a j _ nj a h.x ha,rfl⟩
theorem bg {l:List Value} (h:dG l) (nm:Nat→Option Nat):aj l (List.map (ao nm 9) l):=fE (gd h nm)
theorem Rd.qP (h:Rd C j AB lc acts b kk nj nx at_ at1 L m now) (nm:Nat→Option Nat) (hn:nj < 4000000000):aj (di (nx.set j (nj+1))) (List.map (ao nm 9) (aH (di nx) (0+j*1) [.int .i64 (IntKind.i64.wrap (Int.ofNat nj+1))])):=by
 rw [Ja hn];exact bg (eK _) nm
abbrev px (a:Ac):Value:=yR a.kd a.rd a.key a.val a.lo a.hi a.un a.li a.rv
theorem Sm (h:Rd C j AB lc acts b kk nj nx at_ at1 L m now) (hp:m.bt=false) (hl:acts.length≤nj):Sx.Ends Tryz.prog 71 73 100 (bH C nx at_ .nil ck n (ad L)) fZ (T0 j b kk) .ret (bH C nx at_ .nil ck n (ad L)) (TR j b kk)  :=by
 obtain⟨AA,_,hq⟩:=h.ok.q j _ h.x
 exact LG (AA:=AA) (la:=acts.length) (lc:=lc) (nj:=nj) (cB h.jn) (Cy hl) h.r0 ⟨hq,rfl⟩ (hp ▸ df h.L (by decide)) (bg (eK _) _) (bg (bQ _) _) (bg (bG _) _)
theorem SR {nt:Nat}{l:List Value} (h:Rd C j AB lc acts b kk nj nx at_ at1 L m now) (hc:∀nm,nm 72=some 72→l.map (ao nm 9)=l) (hp:m.bt=false) (hl:acts.length≤nj):Sx.Ends Tryz.prog 71 73 100 (bH C nx at_ (.row nt l) ck n (ad L)) fZ (T0 j b kk) .ret (bH C nx at_ (.row nt l) ck n (ad L)) (TR j b kk)  :=by
 obtain⟨AA,_,hq⟩:=h.ok.q j _ h.x
 exact NK (AA:=AA) (la:=acts.length) (lc:=lc) (nj:=nj) (cB h.jn) (Cy hl) h.r0 ⟨hq,rfl⟩ (hp ▸ df h.L (by decide)) (bg (eK _) _) (bg (bQ _) _) (bg (bG _) _) (fE (hc _ rfl))
theorem Ga (h:Rd C j AB lc acts b kk nj nx at_ at1 L m now) (hp:m.bt=true):Sx.Ends Tryz.prog 71 73 100 (bH C nx at_ .nil ck n (ad L)) fZ (T0 j b kk) (.exit 0) (bH C nx at_ .nil ck n (ad L)) (T0 j b kk):=
 Nf (hp ▸ df h.L (by decide)) (bg (eK _) _) (bg (bQ _) _) (bg (bG _) _)
theorem Gr {nt:Nat}{l:List Value} (h:Rd C j AB lc acts b kk nj nx at_ at1 L m now) (hc:∀nm,nm 72=some 72→l.map (ao nm 9)=l) (hp:m.bt=true):Sx.Ends Tryz.prog 71 73 100 (bH C nx at_ (.row nt l) ck n (ad L)) fZ (T0 j b kk) (.exit 0) (bH C nx at_ (.row nt l) ck n (ad L)) (T0 j b kk):=
 M3 (hp ▸ df h.L (by decide)) (bg (eK _) _) (bg (bQ _) _) (bg (bG _) _) (fE (hc _ rfl))
section
variable {a:Ac}{m':Cs}{e:Int}
theorem Rd.n4 (h:Rd C j AB lc acts b kk nj nx at_ at1 L m now) (ha:acts[nj]? =some a):nj < acts.length∧nj < 4000000000:=by
 have h1:=(List.getElem?_eq_some_iff.1 ha).1
 have h2:=h.ok.len j _ h.x
 have h3:acts.length≤100:=h2
 exact⟨h1,by omega⟩
theorem Rd.lo (h:Rd C j AB lc acts b kk nj nx at_ at1 L m now) (ha:acts[nj]? =some a):a.lo.data.toList.length.ble (4294967295:Nat)=true:=Nat.ble_eq_true_of_le (h.ok.k6 j _ nj a h.x ha).2
theorem DQ {e:Int} (h:e≠0):(!Bool.false==(e==0))=false:=by simp [h]
theorem tM (e:Int):(e !=e)=false:=by simp
theorem KD {k n:Int} (h:k=n):(k==n)=true:=by simp [h]
theorem vD (h:C.Ok) (c:Nat) (n:Int):ab Tryz.prog c [(0,.args C.B C.w0)] c [(0,.args C.B C.w0)] (.call 82 [.iface 72 (.int .i64 n)]) (.val (.int .i64 n)):=FE rfl h.B h.g
theorem TX (h:Rd C j AB lc acts b kk nj nx at_ at1 L m now) (ha:acts[nj]? =some a) (hm:m.dB=true) (hin:m.inside=false) (h1:at1= -1) (he:ep a.kd a.key a.val a.lo a.hi a.un m=e) (hne:e≠0)
  (hd:ab Tryz.prog 74 [(29,.sem (ad L))] 74 [(29,.sem (ad L))] (.call 81 [.pointer (some ⟨b,0,some kk⟩),px a]) (.val (.iface 72 (.int .i64 e)))):
  Sx.bX Tryz.prog 71 73 100 (bH C nx at_ .nil ck n (ad L)) fZ (T0 j b kk) (bH C (nx.set j (nj+1)) at_ .nil ck n (ad L)) (T0 j b kk):=by
 subst h1
 have he':bf a.kd a.key a.val a.lo a.hi a.un (decide ((-1:Int)≥(0:Int))) false=e:=by rw [Ef];unfold ep at he;rw [hin] at he;exact he
 exact QY (AB:=AB) (la:=acts.length) (lc:=lc) (nj:=nj) (er:=e) (ib:=false) (cB h.jn) (iP (by have:=(h.n4 ha).1;omega)) (cI (h.n4 ha).1) h.hx (h.lo ha) (by rw [he'];exact tM e) (by rw [he'];exact DQ hne) rfl
  h.r0 (h.r1 ha) (h.r2 ha) h.r3 ((cq hm).1 ▸ df h.L (by decide)) hd (vD h.ok _ _) (hin ▸ gG h.L (by decide)) (h.qP _ (h.n4 ha).2) (bg (bQ _) _) (bg (bG _) _)
theorem TP {nt:Nat}{l:List Value} (hs:dG l) (h:Rd C j AB lc acts b kk nj nx at_ at1 L m now) (ha:acts[nj]? =some a) (hm:m.dB=true) (hin:m.inside=false) (h1:at1= -1) (he:ep a.kd a.key a.val a.lo a.hi a.un m=e) (hne:e≠0)
  (hd:ab Tryz.prog 74 [(29,.sem (ad L))] 74 [(29,.sem (ad L))] (.call 81 [.pointer (some ⟨b,0,some kk⟩),px a]) (.val (.iface 72 (.int .i64 e)))):
  Sx.bX Tryz.prog 71 73 100 (bH C nx at_ (.row nt l) ck n (ad L)) fZ (T0 j b kk) (bH C (nx.set j (nj+1)) at_ (.row nt l) ck n (ad L)) (T0 j b kk):=by
 subst h1
 have he':bf a.kd a.key a.val a.lo a.hi a.un (decide ((-1:Int)≥(0:Int))) false=e:=by rw [Ef];unfold ep at he;rw [hin] at he;exact he
 exact S5 (AB:=AB) (la:=acts.length) (lc:=lc) (nj:=nj) (er:=e) (ib:=false) (cB h.jn) (iP (by have:=(h.n4 ha).1;omega)) (cI (h.n4 ha).1) h.hx (h.lo ha) (by rw [he'];exact tM e) (by rw [he'];exact DQ hne) rfl
  h.r0 (h.r1 ha) (h.r2 ha) h.r3 ((cq hm).1 ▸ df h.L (by decide)) hd (vD h.ok _ _) (hin ▸ gG h.L (by decide)) (h.qP _ (h.n4 ha).2) (bg (bQ _) _) (bg (bG _) _) (bg hs _)
theorem Uq {nt t:Nat}{l:List Value} (ht:fk (.chan (some 72)) l nt t m.goal) (h:Rd C j AB lc acts b kk nj nx at_ at1 L m now) (ha:acts[nj]? =some a) (hm:m.dB=true) (hin:m.inside=true) (h1:at1=Int.ofNat t) (he:ep a.kd a.key a.val a.lo a.hi a.un m=e) (hne:e≠0)
  (hd:ab Tryz.prog 74 [(29,.sem (ad L))] 74 [(29,.sem (ad L))] (.call 81 [.pointer (some ⟨b,0,some kk⟩),px a]) (.val (.iface 72 (.int .i64 e)))):
  Sx.bX Tryz.prog 71 73 100 (bH C nx at_ (.row nt l) ck n (ad L)) fZ (T0 j b kk) (bH C (nx.set j (nj+1)) at_ (.row nt l) ck n (ad L)) (T0 j b kk):=by
 subst h1
 have he':bf a.kd a.key a.val a.lo a.hi a.un (decide (Int.ofNat t≥(0:Int))) m.goal=e:=by rw [oS,(cq hm).2.2.2];unfold ep at he;rw [hin] at he;exact he
 exact SP (AB:=AB) (la:=acts.length) (lc:=lc) (nj:=nj) (er:=e) (ib:=true) (cB h.jn) (iP (by have:=(h.n4 ha).1;omega)) (cI (h.n4 ha).1) h.hx (cI ht.lt) (h.lo ha) (by rw [he'];exact tM e) (by rw [he'];exact DQ hne) (by rw [oS];rfl)
  h.r0 (h.r1 ha) (h.r2 ha) h.r3 (ei ht.rds) ((cq hm).1 ▸ df h.L (by decide)) hd (vD h.ok _ _) (hin ▸ gG h.L (by decide)) (h.qP _ (h.n4 ha).2) (bg (bQ _) _) (bg (bG _) _) (fE (nQ ht.rest ht.seen rfl))
end
end
end
section
open Go Go.Sx
section
variable {C:cF}{j AB lc b kk nj:Nat}{acts:List Ac}{nx:List Nat}{at_:List Int}{at1:Int}{L:List aG}{m m':Cs}{now:Int}{ck:Int}{n u:Nat}{a:Ac}
theorem yb (hin:m.inside=false) (he:ep a.kd a.key a.val a.lo a.hi a.un m=0):bf a.kd a.key a.val a.lo a.hi a.un (decide ((-1:Int)≥(0:Int))) false=0:=by
 rw [Ef];unfold ep at he;rw [hin] at he;exact he
theorem yg {t:Nat} (hm:m.dB=true) (hin:m.inside=true) (he:ep a.kd a.key a.val a.lo a.hi a.un m=0):bf a.kd a.key a.val a.lo a.hi a.un (decide (Int.ofNat t≥(0:Int))) m.goal=0:=by
 rw [oS,(cq hm).2.2.2];unfold ep at he;rw [hin] at he;exact he
abbrev rk (L:List aG) (j b kk:Nat) (a:Ac) (m':Cs):Prop:=ab Tryz.prog 74 [(29,.sem (ad L))] 74 [(29,.sem (ad (L.set j (m'.res j b))))] (.call 81 [.pointer (some ⟨b,0,some kk⟩),px a]) (.val .nilIface)
theorem dP (C:cF) (c:Nat):ab Tryz.prog c [(0,.args C.B C.w0)] c [(0,.args C.B C.w0)] (.call 82 [.nilIface]) (.val (.int .i64 0)):=Ht
theorem Rd.L' (h:Rd C j AB lc acts b kk nj nx at_ at1 L m now):(L.set j (m'.res j b))[j]? =some (m'.res j b):=fb h.L
theorem Uf (h:Rd C j AB lc acts b kk nj nx at_ at1 L m now) (ha:acts[nj]? =some a) (hm:m.dB=true) (hin:m.inside=false) (hin':m'.inside=false) (h1:at1= -1) (he:ep a.kd a.key a.val a.lo a.hi a.un m=0) (hk:a.kd=1) (hd:rk L j b kk a m'):
  Sx.bX Tryz.prog 71 73 100 (bH C nx at_ .nil ck n (ad L)) fZ (T0 j b kk) (bH C (nx.set j (nj+1)) (at_.set j (Int.ofNat 0)) (.row 1 (lF j ck a.rd)) ck n (ad (L.set j (m'.res j b)))) (T0 j b kk):=by
 subst h1
 have he':=yb hin he
 exact SY (AB:=AB) (la:=acts.length) (lc:=lc) (nj:=nj) (ib:=false) (cB h.jn) (iP (by have:=(h.n4 ha).1;omega)) (cI (h.n4 ha).1) h.hx (h.lo ha) (by rw [he'];rfl) (by rw [he'];rfl) rfl (KD hk) h.ha (by rw [hk];rfl) (by rw [hk];rfl) (by rw [hk];rfl)
  h.r0 (h.r1 ha) (h.r2 ha) h.r3 ((cq hm).1 ▸ df h.L (by decide)) hd (dP C _) (hin' ▸ gG (m:=m') h.L' (by decide)) (h.qP _ (h.n4 ha).2) (by rw [ints_set];exact bg (bQ _) _) (bg (bG _) _) (bg (kK _ _ _) _)
theorem Ui {nt:Nat}{l:List Value} (hs:dG l) (hl:l.length=nt*10) (hnt:nt≤9000) (h:Rd C j AB lc acts b kk nj nx at_ at1 L m now) (ha:acts[nj]? =some a) (hm:m.dB=true) (hin:m.inside=false) (hin':m'.inside=false) (h1:at1= -1) (he:ep a.kd a.key a.val a.lo a.hi a.un m=0) (hk:a.kd=1) (hd:rk L j b kk a m'):
  Sx.bX Tryz.prog 71 73 100 (bH C nx at_ (.row nt l) ck n (ad L)) fZ (T0 j b kk) (bH C (nx.set j (nj+1)) (at_.set j (Int.ofNat nt)) (.row (nt+1) (l++lF j ck a.rd)) ck n (ad (L.set j (m'.res j b)))) (T0 j b kk):=by
 subst h1
 have he':=yb hin he
 exact Sk (AB:=AB) (la:=acts.length) (lc:=lc) (nj:=nj) (ib:=false) (cB h.jn) (iP (by have:=(h.n4 ha).1;omega)) (cI (h.n4 ha).1) h.hx (h.lo ha) (by rw [he'];rfl) (by rw [he'];rfl) rfl (KD hk) h.ha (Sv (by omega)) (by rw [hk];rfl) (by rw [hk];rfl) (by rw [hk];rfl)
  h.r0 (h.r1 ha) (h.r2 ha) h.r3 ⟨by rw [List.drop_zero,List.take_of_length_le (by omega)],hl⟩ ((cq hm).1 ▸ df h.L (by decide)) hd (dP C _) (hin' ▸ gG (m:=m') h.L' (by decide)) (h.qP _ (h.n4 ha).2) (by rw [ints_set];exact bg (bQ _) _) (bg (bG _) _) (bg (qw hs (kK _ _ _)) _)
theorem T4 (h:Rd C j AB lc acts b kk nj nx at_ at1 L m now) (ha:acts[nj]? =some a) (hm:m.dB=true) (hin:m.inside=false) (hin':m'.inside=false) (h1:at1= -1) (he:ep a.kd a.key a.val a.lo a.hi a.un m=0) (hk:a.kd=8) (hd:rk L j b kk a m'):
  Sx.bX Tryz.prog 71 73 100 (bH C nx at_ .nil ck n (ad L)) fZ (T0 j b kk) (bH C (nx.set j (nj+1)) at_ .nil ck n (ad (L.set j (m'.res j b)))) (T0 j b kk):=by
 subst h1
 have he':=yb hin he
 exact R9 (AB:=AB) (la:=acts.length) (lc:=lc) (nj:=nj) (ib:=false) (cB h.jn) (iP (by have:=(h.n4 ha).1;omega)) (cI (h.n4 ha).1) h.hx (h.lo ha) (by rw [he'];rfl) (by rw [he'];rfl) rfl (by rw [hk];rfl) (by rw [hk];rfl) (by rw [hk];rfl) (by rw [hk];rfl)
  h.r0 (h.r1 ha) (h.r2 ha) h.r3 ((cq hm).1 ▸ df h.L (by decide)) hd (dP C _) (hin' ▸ gG (m:=m') h.L' (by decide)) (h.qP _ (h.n4 ha).2) (bg (bQ _) _) (bg (bG _) _)
theorem TV {nt:Nat}{l:List Value} (hs:dG l) (h:Rd C j AB lc acts b kk nj nx at_ at1 L m now) (ha:acts[nj]? =some a) (hm:m.dB=true) (hin:m.inside=false) (hin':m'.inside=false) (h1:at1= -1) (he:ep a.kd a.key a.val a.lo a.hi a.un m=0) (hk:a.kd=8) (hd:rk L j b kk a m'):
  Sx.bX Tryz.prog 71 73 100 (bH C nx at_ (.row nt l) ck n (ad L)) fZ (T0 j b kk) (bH C (nx.set j (nj+1)) at_ (.row nt l) ck n (ad (L.set j (m'.res j b)))) (T0 j b kk):=by
 subst h1
 have he':=yb hin he
 exact Rc (AB:=AB) (la:=acts.length) (lc:=lc) (nj:=nj) (ib:=false) (cB h.jn) (iP (by have:=(h.n4 ha).1;omega)) (cI (h.n4 ha).1) h.hx (h.lo ha) (by rw [he'];rfl) (by rw [he'];rfl) rfl (by rw [hk];rfl) (by rw [hk];rfl) (by rw [hk];rfl) (by rw [hk];rfl)
  h.r0 (h.r1 ha) (h.r2 ha) h.r3 ((cq hm).1 ▸ df h.L (by decide)) hd (dP C _) (hin' ▸ gG (m:=m') h.L' (by decide)) (h.qP _ (h.n4 ha).2) (bg (bQ _) _) (bg (bG _) _) (bg hs _)
section
variable {nt t:Nat}{l:List Value}
theorem Qc (ht:fk (.chan (some 72)) l nt t m.goal) (h:Rd C j AB lc acts b kk nj nx at_ at1 L m now) (ha:acts[nj]? =some a) (hm:m.dB=true) (hin:m.inside=true) (hin':m'.inside=true) (h1:at1=Int.ofNat t) (he:ep a.kd a.key a.val a.lo a.hi a.un m=0) (hk:a.kd=5∨a.kd=7) (hd:rk L j b kk a m'):
  Sx.bX Tryz.prog 71 73 100 (bH C nx at_ (.row nt l) ck n (ad L)) fZ (T0 j b kk) (bH C (nx.set j (nj+1)) at_ (.row nt l) ck n (ad (L.set j (m'.res j b)))) (T0 j b kk):=by
 subst h1
 have he':=yg (t:=t) hm hin he
 exact SX (AB:=AB) (la:=acts.length) (lc:=lc) (nj:=nj) (ib:=true) (cB h.jn) (iP (by have:=(h.n4 ha).1;omega)) (cI (h.n4 ha).1) h.hx (cI ht.lt) (h.lo ha) (by rw [he'];rfl) (by rw [he'];rfl) (by rw [oS];rfl) (by rcases hk with e|e <;> rw [e] <;> rfl) (by rcases hk with e|e <;> rw [e] <;> rfl) (by rcases hk with e|e <;> rw [e] <;> rfl) (by rcases hk with e|e <;> rw [e] <;> rfl)
  h.r0 (h.r1 ha) (h.r2 ha) h.r3 (ei ht.rds) ((cq hm).1 ▸ df h.L (by decide)) hd (dP C _) (hin' ▸ gG (m:=m') h.L' (by decide)) (h.qP _ (h.n4 ha).2) (bg (bQ _) _) (bg (bG _) _) (fE (nQ ht.rest ht.seen rfl))
theorem TU (ht:fk (.chan (some 72)) l nt t m.goal) (h:Rd C j AB lc acts b kk nj nx at_ at1 L m now) (ha:acts[nj]? =some a) (hm:m.dB=true) (hin:m.inside=true) (hin':m'.inside=true) (hpe:m'.bt=true) (h1:at1=Int.ofNat t) (he:ep a.kd a.key a.val a.lo a.hi a.un m=0) (hk:a.kd=2) (hd:rk L j b kk a m'):
  Sx.bX Tryz.prog 71 73 100 (bH C nx at_ (.row nt l) ck n (ad L)) fZ (T0 j b kk) (bH C (nx.set j (nj+1)) at_ (.row nt l) ck n (ad (L.set j (m'.res j b)))) (T0 j b kk):=by
 subst h1
 have he':=yg (t:=t) hm hin he
 exact Rs (AB:=AB) (la:=acts.length) (lc:=lc) (nj:=nj) (ib:=true) (pe:=true) (cB h.jn) (iP (by have:=(h.n4 ha).1;omega)) (cI (h.n4 ha).1) h.hx (cI ht.lt) (h.lo ha) (by rw [he'];rfl) (by rw [he'];rfl) (by rw [oS];rfl) (by rw [hk];rfl) (by rw [hk];rfl) (by rw [hk];rfl) (by rw [hk];rfl) rfl
  h.r0 (h.r1 ha) (h.r2 ha) h.r3 (ei ht.rds) ((cq hm).1 ▸ df h.L (by decide)) hd (dP C _) (hin' ▸ gG (m:=m') h.L' (by decide)) (hpe ▸ df (m:=m') h.L' (by decide)) (h.qP _ (h.n4 ha).2) (bg (bQ _) _) (bg (bG _) _) (fE (nQ ht.rest ht.seen rfl))
theorem Uo (ht:fk (.chan (some 72)) l nt t m.goal) (hn:n≤9000) (h:Rd C j AB lc acts b kk nj nx at_ at1 L m now) (ha:acts[nj]? =some a) (hm:m.dB=true) (hin:m.inside=true) (hin':m'.inside=true) (h1:at1=Int.ofNat t) (he:ep a.kd a.key a.val a.lo a.hi a.un m=0) (hk:a.kd=3∨a.kd=4) (hd:rk L j b kk a m'):
  Sx.bX Tryz.prog 71 73 100 (bH C nx at_ (.row nt l) ck n (ad L)) fZ (T0 j b kk) (bH C (nx.set j (nj+1)) at_ (.row nt l) ck (n+1) (ad (L.set j (m'.res j b)))) (T0 j b kk):=by
 subst h1
 have he':=yg (t:=t) hm hin he
 have hlt:=(List.getElem?_eq_some_iff.1 ht.seen).1
 have hcov:aj l (List.map (ao (nameOf [(71,71),(72,75)] 71 100) 9) (aH l (0+t*10+7) [.chan (some 75)])):=by
  rw [bB,fB];exact fE (u6 ht.rest ht.seen rfl)
 rcases hk with hk|hk
 · exact SS (AB:=AB) (la:=acts.length) (lc:=lc) (nj:=nj) (ib:=true) (cB h.jn) (iP (by have:=(h.n4 ha).1;omega)) (cI (h.n4 ha).1) h.hx (cI ht.lt) (h.lo ha) (by rw [he'];rfl) (by rw [he'];rfl) (by rw [oS];rfl) (by rw [hk];rfl) (by rw [hk];rfl) (jB (by omega)) (eJ hlt) (by rw [hk];rfl)
    h.r0 (h.r1 ha) (h.r2 ha) h.r3 (ei ht.rds) (ei ht.seen) ((cq hm).1 ▸ df h.L (by decide)) hd (dP C _) (hin' ▸ gG (m:=m') h.L' (by decide)) (h.qP _ (h.n4 ha).2) (bg (bQ _) _) (bg (bG _) _) hcov
 · exact Tt (AB:=AB) (la:=acts.length) (lc:=lc) (nj:=nj) (ib:=true) (cB h.jn) (iP (by have:=(h.n4 ha).1;omega)) (cI (h.n4 ha).1) h.hx (cI ht.lt) (h.lo ha) (by rw [he'];rfl) (by rw [he'];rfl) (by rw [oS];rfl) (by rw [hk];rfl) (by rw [hk];rfl) (by rw [hk];rfl) (jB (by omega)) (eJ hlt) (by rw [hk];rfl)
    h.r0 (h.r1 ha) (h.r2 ha) h.r3 (ei ht.rds) (ei ht.seen) ((cq hm).1 ▸ df h.L (by decide)) hd (dP C _) (hin' ▸ gG (m:=m') h.L' (by decide)) (h.qP _ (h.n4 ha).2) (bg (bQ _) _) (bg (bG _) _) hcov
theorem rn (c:Nat):ab Tryz.prog c [] c [] (.call 84 [.nilIface]) (.val (.bool false)):=bI (se (c:=c) RJ (Nat.zero_le _) (Nat.le_refl _) (ko rfl fun n x e=>by simp [Heap.get] at e) (ko rfl fun n x e=>by simp [Heap.get] at e) rfl rfl) (Nat.le_refl _)
theorem ES (ht:fk (.chan (some 72)) l nt t m.goal) (hn:n≤9000) (hj:j < C.nc) (hcl:C.cl[j]? =some (b,kk)) (hat:at_[j]? =some (Int.ofNat t)) (hL:L[j]? =some (m'.res j b)) (hd:m'.isDone=true) (hf:m'.gD=false) (hr:∀y nb ws os,m'≠ .inn y nb ws (.rows os)) (hk:a.kd=2):
  ∃q,ab Tryz.prog 74 [(0,.args C.B C.w0),(40,mf C.nc (.slice (some ⟨71,0,none⟩) nt 0) ck),(42,.cells (ints at_) 3),(45,.cells (cP C.cl) 58),(29,.sem (ad L)),(71,.cells l 182),(72,.bag 188 n)] 94
   [(0,.args C.B C.w0),(40,mf C.nc (.slice (some ⟨71,0,none⟩) nt 0) ck),(42,.cells (ints at_) 3),(45,.cells (cP C.cl) 58),(71,.cells ((l.set (10*t+6) (.bool q)).set (10*t+7) (.chan (some 93))) 182),(93,.bag 188 (n+1)),(29,.sem (ad (L.set j (m'.told.res j b))))]
   (.call 49 [.pointer (some ⟨40,0,none⟩),.int .i64 (j:Nat),px a]) (.val (.tuple ⟨[]⟩)):=by
 obtain⟨vv,th,hres⟩:=lu (kk:=kk) (c:=91) hL hd hf (fun y nb ws os e=>absurd e (hr _ _ _ _)) (by decide)
 obtain⟨q,hq⟩:=ht.tir
 obtain⟨kd,rd,key,val,lo,hi,un,li,rv⟩:=a
 have hk':kd=2:=hk
 subst hk'
 have hlt:=(List.getElem?_eq_some_iff.1 ht.seen).1
 have hseen:∀x,(l.set (10*t+6) x)[10*t+7]? =some (.chan (some 72)):=fun x=>by rw [List.getElem?_set,if_neg (by omega)];exact ht.seen
 have hc:List.take 1 (List.drop (0+j*1) (cP C.cl))= [.pointer (some ⟨b,0,some kk⟩)]∧1=1:=oJ (by simp [cP,hcl])
 cases q with
 |true=>
  have g:=QV (n:=n) (ck:=ck) (rd:=rd) (key:=key) (low:=lo) (high:=hi) (val:=val) (unb:=un) (lim:=li) (rev:=rv) (cB hj) (cI ht.lt) rfl (eJ (by omega)) (jB (by omega)) (eJ (by rw [bB,List.length_set];exact hlt)) hc (oJ (ints_at hat)) (ei hq) (by rw [bB,fB t 6];exact ei (hseen _)) hres (dP C _)
  rw [bB,bB,fB,fB] at g
  exact⟨true,mj g (by decide:74≤90)⟩
 |false=>
  have g:=Se (n:=n) (ck:=ck) (rd:=rd) (key:=key) (low:=lo) (high:=hi) (val:=val) (unb:=un) (lim:=li) (rev:=rv) (cB hj) (cI ht.lt) rfl (eJ (by omega)) (jB (by omega)) (eJ (by rw [bB,List.length_set];exact hlt)) hc (oJ (ints_at hat)) (ei hq) (by rw [bB,fB t 6];exact ei (hseen _)) hres (dP C _) (rn _)
  rw [bB,bB,fB,fB] at g
  exact⟨false,mj g (by decide:74≤90)⟩
end
end
end
end Go.Proofs.YtalanookmohdeaaGreatDoor
