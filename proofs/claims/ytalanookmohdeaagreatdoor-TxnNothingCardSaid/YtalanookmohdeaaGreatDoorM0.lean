/- TxnNothing: the symbolic executor. No condition. -/
import Derived.Orders
import Derived.Laws.Cells
import Derived.Laws.Entries
import Derived.Laws.StructEq
import Derived.Laws.Slices
import Derived.Laws.Strings
import Derived.IntWalk
namespace Go.Sx
structure Env where
 blk:Nat→Option Nat
 cap:Nat→Nat
 val:Nat→Option Value
structure Env.Le (r r':Env):Prop where
 blk:∀n b,r.blk n=some b→r'.blk n=some b
 cap:∀n b,r.blk n=some b→r'.cap n=r.cap n
 val:∀i v,r.val i=some v→r'.val i=some v
theorem Env.Le.refl (r:Env):r.Le r:=⟨fun _ _ h=>h,fun _ _ _=>rfl,fun _ _ h=>h⟩
theorem Env.Le.trans {a b c:Env} (h:a.Le b) (k:b.Le c):a.Le c:=
 ⟨fun n x e=>k.blk n x (h.blk n x e),fun n x e=>(k.cap n x (h.blk n x e)).trans (h.cap n x e),fun i v e=>k.val i v (h.val i v e)⟩
inductive Rel (r:Env):Value→Value→Prop
 |bool (b:Bool):Rel r (.bool b) (.bool b)
 |int (k:IntKind) (n:Int):Rel r (.int k n) (.int k n)
 |string (s:ByteArray):Rel r (.string s) (.string s)
 |ptrNil:Rel r (.pointer none) (.pointer none)
 |ptr {n b off:Nat} (h:r.blk n=some b):Rel r (.pointer (some ⟨n,off,none⟩)) (.pointer (some ⟨b,off,none⟩))
 |sliceNil {c:Nat}:Rel r (.slice none 0 c) (.slice none 0 0)
 |slice {n b off off' l m c:Nat} (h:r.blk n=some b) (ho:off'=off∨l=0) (hl:l≤c) (h0:m=0→off=0∧off'=0∧c=r.cap n) (h2:m=2→c=l):
   Rel r (.slice (some ⟨n,off,none⟩) l m) (.slice (some ⟨b,off',none⟩) l c)
 |litPtr {b off k:Nat}:Rel r (.pointer (some ⟨b,off,some k⟩)) (.pointer (some ⟨b,off,none⟩))
 |litSlice {b off l c k:Nat} {sp:Option Nat} (hl:l≤c) (hs:sp=none∨l=0):Rel r (.slice (some ⟨b,off,some k⟩) l c) (.slice (some ⟨b,off,sp⟩) l c)
 |mapNil:Rel r (.map none) (.map none)
 |map {n b:Nat} (h:r.blk n=some b):Rel r (.map (some n)) (.map (some b))
 |func {fn:Fn} {f1 f2 c1 c2:Array Value} (hf:f1.size=f2.size) (hc:c1.size=c2.size)
   (h1:∀(i:Nat) (h:i < f1.size) (h':i < f2.size),Rel r f1[i] f2[i]) (h2:∀(i:Nat) (h:i < c1.size) (h':i < c2.size),Rel r c1[i] c2[i]):
   Rel r (.func fn f1 c1) (.func fn f2 c2)
 |nilFunc:Rel r .nilFunc .nilFunc
 |iface {t:TypeId} {v v':Value} (h:Rel r v v'):Rel r (.iface t v) (.iface t v')
 |nilIface:Rel r .nilIface .nilIface
 |agg {xs ys:Array Value} (hs:xs.size=ys.size) (h:∀(i:Nat) (h:i < xs.size) (h':i < ys.size),Rel r xs[i] ys[i]):Rel r (.agg xs) (.agg ys)
 |tuple {xs ys:Array Value} (hs:xs.size=ys.size) (h:∀(i:Nat) (h:i < xs.size) (h':i < ys.size),Rel r xs[i] ys[i]):Rel r (.tuple xs) (.tuple ys)
 |opq {i:Nat} {v:Value} (h:r.val i=some v):Rel r (.chan (some i)) v
 |any {v:Value}:Rel r (.chan none) v
theorem Rel.mono {r r':Env} (hr:r.Le r') {v u:Value} (h:Rel r v u):Rel r' v u:=by
 induction h with
 |bool b=>exact .bool b
 |int k n=>exact .int k n
 |string s=>exact .string s
 |ptrNil=>exact .ptrNil
 |ptr h=>exact .ptr (hr.blk _ _ h)
 |sliceNil=>exact .sliceNil
 |slice h ho hl h0 h2=>exact .slice (hr.blk _ _ h) ho hl (fun e=>⟨(h0 e).1,(h0 e).2.1,(h0 e).2.2.trans (hr.cap _ _ h).symm⟩) h2
 |litPtr=>exact .litPtr
 |litSlice hl hs=>exact .litSlice hl hs
 |mapNil=>exact .mapNil
 |map h=>exact .map (hr.blk _ _ h)
 |func hf hc _ _ ih1 ih2=>exact .func hf hc ih1 ih2
 |nilFunc=>exact .nilFunc
 |iface _ ih=>exact .iface ih
 |nilIface=>exact .nilIface
 |agg hs _ ih=>exact .agg hs ih
 |tuple hs _ ih=>exact .tuple hs ih
 |opq h=>exact .opq (hr.val _ _ h)
 |any=>exact .any
inductive aw (r:Env):List Value→List Value→Prop
 |nil:aw r [] []
 |cons {x y:Value} {xs ys:List Value} (h:Rel r x y) (t:aw r xs ys):aw r (x::xs) (y::ys)
theorem aw.mono {r r':Env} (hr:r.Le r') {xs ys:List Value} (h:aw r xs ys):aw r' xs ys:=by
 induction h with
 |nil=>exact .nil
 |cons h _ ih=>exact .cons (h.mono hr) ih
theorem aw.length {r:Env}{xs ys:List Value} (h:aw r xs ys):xs.length=ys.length:=by
 induction h with
 |nil=>rfl
 |cons _ _ ih=>simp [ih]
theorem aw.append {r:Env}{xs ys xs' ys':List Value} (h:aw r xs ys) (h':aw r xs' ys'):aw r (xs++xs') (ys++ys'):=by
 induction h with
 |nil=>exact h'
 |cons h _ ih=>exact .cons h ih
theorem aw.drop {r:Env}{xs ys:List Value} (h:aw r xs ys):∀n,aw r (xs.drop n) (ys.drop n):=by
 induction h with
 |nil=>intro n;simp;exact .nil
 |cons h t ih=>intro n;cases n with
  |zero=>exact .cons h t
  |succ n=>exact ih n
theorem aw.take {r:Env}{xs ys:List Value} (h:aw r xs ys):∀n,aw r (xs.take n) (ys.take n):=by
 induction h with
 |nil=>intro n;simp;exact .nil
 |cons h t ih=>intro n;cases n with
  |zero=>exact .nil
  |succ n=>exact .cons h (ih n)
theorem aw.get {r:Env}{xs ys:List Value} (h:aw r xs ys):∀(i:Nat) (x:Value),xs[i]? =some x→∃y,ys[i]? =some y∧Rel r x y:=by
 induction h with
 |nil=>intro i x e;simp at e
 |cons h t ih=>intro i x e;cases i with
  |zero=>simp at e;subst e;exact⟨_,by simp,h⟩
  |succ i=>exact ih i x (by simpa using e)
theorem aw.get' {r:Env}{xs ys:List Value} (h:aw r xs ys):∀(i:Nat) (y:Value),ys[i]? =some y→∃x,xs[i]? =some x∧Rel r x y:=by
 induction h with
 |nil=>intro i x e;simp at e
 |cons h t ih=>intro i x e;cases i with
  |zero=>simp at e;subst e;exact⟨_,by simp,h⟩
  |succ i=>exact ih i x (by simpa using e)
theorem aw.set {r:Env}{xs ys:List Value} (h:aw r xs ys) {x y:Value} (hx:Rel r x y):∀i,aw r (xs.set i x) (ys.set i y):=by
 induction h with
 |nil=>intro i;exact .nil
 |cons h t ih=>intro i;cases i with
  |zero=>exact .cons hx t
  |succ i=>exact .cons h (ih i)
theorem aw.replicate {r:Env}{x y:Value} (h:Rel r x y):∀n,aw r (List.replicate n x) (List.replicate n y)
 |0=> .nil
 |n+1=> .cons h (aw.replicate h n)
theorem aw.yL {r:Env}:∀ {xs ys:List Value},xs.length=ys.length→(∀(i:Nat) (h:i < xs.length) (h':i < ys.length),Rel r xs[i] ys[i])→aw r xs ys
 | [],[],_,_=> .nil
 | [],_::_,h,_=>by simp at h
 |_::_,[],h,_=>by simp at h
 |x::xs,y::ys,h,g=> .cons (g 0 (by simp) (by simp)) (aw.yL (by simpa using h) fun i h1 h2=>g (i+1) (by simpa using h1) (by simpa using h2))
theorem aw.xX {r:Env}{xs ys:List Value} (h:aw r xs ys):∀(i:Nat) (h:i < (⟨xs⟩:Array Value).size) (h':i < (⟨ys⟩:Array Value).size),Rel r (⟨xs⟩:Array Value)[i] (⟨ys⟩:Array Value)[i]:=by
 intro i h1 h2
 obtain⟨y,e,hy⟩:=h.get i xs[i] (by simp)
 have:ys[i]'(by simpa using h2)=y:=by simpa using(List.getElem?_eq_some_iff.1 e).2
 simpa [this] using hy
theorem aw.kL {r:Env}{xs ys:List Value} (h:aw r xs ys):Rel r (.agg ⟨xs⟩) (.agg ⟨ys⟩):= .agg (by simpa using h.length) h.xX
theorem aw.mkTuple {r:Env}{xs ys:List Value} (h:aw r xs ys):Rel r (.tuple ⟨xs⟩) (.tuple ⟨ys⟩):= .tuple (by simpa using h.length) h.xX
theorem aw.rQ {r:Env}{xs ys asZ bs:List Value}{fn:Fn} (h:aw r xs ys) (h':aw r asZ bs):Rel r (.func fn ⟨xs⟩ ⟨asZ⟩) (.func fn ⟨ys⟩ ⟨bs⟩):=
 .func (by simpa using h.length) (by simpa using h'.length) h.xX h'.xX
theorem aw.uM {r:Env}{xs ys:Array Value} (hs:xs.size=ys.size) (h:∀(i:Nat) (h:i < xs.size) (h':i < ys.size),Rel r xs[i] ys[i]):aw r xs.toList ys.toList:=
 aw.yL (by simpa using hs) fun i h1 h2=>by simpa using h i (by simpa using h1) (by simpa using h2)
theorem Rel.j3 {r:Env}{xs:Array Value}{u:Value} (h:Rel r (.agg xs) u):∃ys:Array Value,u= .agg ys∧aw r xs.toList ys.toList:=by
 cases h with|agg hs h=>exact⟨_,rfl,aw.uM hs h⟩
theorem Rel.lS {r:Env}{xs:Array Value}{u:Value} (h:Rel r (.tuple xs) u):∃ys:Array Value,u= .tuple ys∧aw r xs.toList ys.toList:=by
 cases h with|tuple hs h=>exact⟨_,rfl,aw.uM hs h⟩
theorem Rel.qd {r:Env}{fn:Fn}{xs asZ:Array Value}{u:Value} (h:Rel r (.func fn xs asZ) u):
  ∃ys bs:Array Value,u= .func fn ys bs∧aw r xs.toList ys.toList∧aw r asZ.toList bs.toList:=by
 cases h with|func hf hc h1 h2=>exact⟨_,_,rfl,aw.uM hf h1,aw.uM hc h2⟩
def plain:Value→Bool
 | .bool _| .int _ _| .string _| .pointer none| .slice none 0 0| .map none| .nilFunc| .nilIface| .tuple ⟨[]⟩=>true
 | .func _ ⟨[]⟩ ⟨[]⟩=>true
 | .iface _ (.int _ _)| .iface _ (.string _)=>true
 |_=>false
theorem oC {r:Env}{v:Value} (h:plain v=true):Rel r v v:=by
 unfold plain at h
 split at h <;> first
  |exact Rel.bool _|exact Rel.int _ _|exact Rel.string _|exact Rel.ptrNil|exact Rel.sliceNil|exact Rel.mapNil|exact Rel.nilFunc|exact Rel.nilIface
  |exact aw.mkTuple .nil|exact aw.rQ .nil .nil|exact Rel.iface (.int _ _)|exact Rel.iface (.string _)|simp at h
def iz:List Value→Bool
 | []=>true
 |v::l=>plain v && iz l
theorem kH {r:Env}:∀ {l:List Value},iz l=true→aw r l l
 | [],_=> .nil
 |v::l,h=>by
  simp only [iz,Bool.and_eq_true] at h
  exact .cons (oC h.1) (kH h.2)
def du:Value→List Value
 | .agg cs=>cs.toList
 |v=> [v]
theorem gU (v:Value):v.cells.toList=du v:=by
 cases v <;> rfl
def mZ:Value→Bool
 | .chan _=>true
 |_=>false
theorem Rel.rB {r:Env}{v u:Value} (h:Rel r v u) (ho:mZ v=false):aw r (du v) (du u):=by
 cases h with
 |agg hs h=>exact aw.uM hs h
 |opq h=>simp [mZ] at ho
 |any=>simp [mZ] at ho
 |bool b=>exact .cons (.bool b) .nil
 |int k n=>exact .cons (.int k n) .nil
 |string s=>exact .cons (.string s) .nil
 |ptrNil=>exact .cons .ptrNil .nil
 |ptr h=>exact .cons (.ptr h) .nil
 |litPtr=>exact .cons .litPtr .nil
 |litSlice hl hs=>exact .cons (.litSlice hl hs) .nil
 |sliceNil=>exact .cons .sliceNil .nil
 |slice h hp hl h0 h2=>exact .cons (.slice h hp hl h0 h2) .nil
 |mapNil=>exact .cons .mapNil .nil
 |map h=>exact .cons (.map h) .nil
 |func hf hc h1 h2=>exact .cons (.func hf hc h1 h2) .nil
 |nilFunc=>exact .cons .nilFunc .nil
 |iface h=>exact .cons (.iface h) .nil
 |nilIface=>exact .cons .nilIface .nil
 |tuple hs h=>exact .cons (.tuple hs h) .nil
def ed:Value→Bool
 | .agg _| .tuple _| .chan _=>false
 |_=>true
theorem Rel.sl {r:Env}{v u:Value} (h:Rel r v u) (hc:ed v=true):(∀xs,u≠ .agg xs)∧(∀xs,u≠ .tuple xs):=by
 cases h <;> first|(simp [ed] at hc;done)|(refine⟨fun _=> ?_,fun _=> ?_⟩ <;> simp)
end Go.Sx
namespace Go.Sx
structure aG where
 holds:World→(Nat→Prop)→Prop
 up:∀ {w:World} {S S':Nat→Prop},(∀b,S b→S' b)→holds w S→holds w S'
 loc:∀ {w w':World} {S:Nat→Prop},(∀b,S b→w'.heap[b]? =w.heap[b]?)→holds w S→holds w' S
inductive Chunk where
 |cells (l:List Value) (t:TypeId)
 |map (es:List (Value×Value))
 |sem (x:aG)
 |args (B:Nat) (w0:World)
 |bag (e:TypeId) (m:Nat)
 |iter (s:ByteArray) (pos:Nat)
 |froz (S:List Nat) (w0:World)
abbrev Heap:=List (Nat×Chunk)
def Heap.get:Heap→Nat→Option Chunk
 | [],_=>none
 |(m,c)::h,n=>if Nat.beq m n then some c else Heap.get h n
def Heap.put:Heap→Nat→Chunk→Heap
 | [],n,d=> [(n,d)]
 |(m,c)::h,n,d=>if Nat.beq m n then(m,d)::h else(m,c)::Heap.put h n d
def Heap.del:Heap→Nat→Heap
 | [],_=> []
 |(m,c)::h,n=>if Nat.beq m n then Heap.del h n else(m,c)::Heap.del h n
theorem cj (m n:Nat):Nat.beq m n=decide (m=n):=by
 cases h:Nat.beq m n with
 |true=>simp [Nat.eq_of_beq_eq_true h]
 |false=>simp [Nat.ne_of_beq_eq_false h]
theorem Heap.cG (h:Heap) (n:Nat) (d:Chunk) (m:Nat):(h.put n d).get m=if m=n then some d else h.get m:=by
 induction h with
 |nil=>
  simp only [Heap.put,Heap.get,cj]
  by_cases e:m=n
  · simp [e]
  · simp [e];exact fun x=>e x.symm
 |cons x h ih=>
  obtain⟨k,c⟩:=x
  simp only [Heap.put,cj]
  by_cases e:k=n
  · subst e;simp only [decide_true,if_true,Heap.get,cj]
    by_cases e2:k=m
    · simp [e2]
    · simp [e2,Ne.symm e2]
  · simp only [e,decide_false,Bool.false_eq_true,if_false,Heap.get,cj,ih]
    by_cases e2:k=m
    · subst e2;simp [e]
    · simp [e2]
theorem Heap.lx (h:Heap) (n m:Nat):(h.del n).get m=if m=n then none else h.get m:=by
 induction h with
 |nil=>simp [Heap.del,Heap.get]
 |cons x h ih=>
  obtain⟨k,c⟩:=x
  simp only [Heap.del,cj]
  by_cases e:k=n
  · subst e;simp only [decide_true,if_true,Heap.get,cj,ih]
    by_cases e2:k=m
    · simp [e2]
    · simp [e2,Ne.symm e2]
  · simp only [e,decide_false,Bool.false_eq_true,if_false,Heap.get,cj,ih]
    by_cases e2:k=m
    · subst e2;simp [e]
    · simp [e2]
def Chunk.sat (P:Program) (r:Env) (ow:Nat→Option Nat) (w:World) (n:Nat):Chunk→Prop
 | .cells l t=>∃b c,r.blk n=some b∧ow b=some n∧w.heap[b]? =some (.cells c t (0,0))∧aw r l (c.toList.take l.length)∧l.length≤c.size∧c.size=r.cap n*P.cellsOf t
 | .map es=>∃b es' k,r.blk n=some b∧ow b=some n∧w.heap[b]? =some (.map es' k)∧aw r (es.map (·.1)) (es'.toList.map (·.key))∧aw r (es.map (·.2)) (es'.toList.map (·.val))
 | .sem x=>x.holds w (fun b=>ow b=some n)
 | .args B w0=>∀b,b < B→ow b=some n∧w.heap[b]? =w0.heap[b]?
 | .bag e m=>∃a l c,r.val n=some (.slice a l c)∧l≤m∧((a=none∧l=0∧c=0)∨∃b cs,a=some ⟨b,0,none⟩∧ow b=some n∧w.heap[b]? =some (.cells cs e (0,0))∧cs.size=c*P.cellsOf e∧l≤c∧0 < l)
 | .iter s pos=>∃b,r.blk n=some b∧ow b=some n∧w.heap[b]? =some (.stringIter s pos)
 | .froz S w0=>∀b,b∈S→ow b=some n∧w.heap[b]? =w0.heap[b]?
structure Sat (P:Program) (r:Env) (ow:Nat→Option Nat) (h:Heap) (w:World):Prop where
 chunk:∀n c,h.get n=some c→c.sat P r ow w n
 bound:∀b n,ow b=some n→b < w.heap.size
 known:∀b n,ow b=some n→r.blk n≠none∨r.val n≠none
theorem Chunk.dX {P:Program}{r r':Env}{ow:Nat→Option Nat}{w:World}{n:Nat}{c:Chunk} (hr:r.Le r') (h:c.sat P r ow w n):c.sat P r' ow w n:=by
 cases c with
 |cells l t=>
  obtain⟨b,c,h1,h2,h3,h4,h5,h6⟩:=h
  exact⟨b,c,hr.blk _ _ h1,h2,h3,h4.mono hr,h5,by rw [hr.cap _ _ h1];exact h6⟩
 |map es=>
  obtain⟨b,es',k,h1,h2,h3,h4,h5⟩:=h
  exact⟨b,es',k,hr.blk _ _ h1,h2,h3,h4.mono hr,h5.mono hr⟩
 |sem x=>exact h
 |args B w0=>exact h
 |froz S w0=>exact h
 |bag e m=>
  obtain⟨a,l,c,h1,h2,h3⟩:=h
  exact⟨a,l,c,hr.val _ _ h1,h2,h3⟩
 |iter s pos=>
  obtain⟨b,h1,h2,h3⟩:=h
  exact⟨b,hr.blk _ _ h1,h2,h3⟩
theorem Chunk.cR {P:Program}{r:Env}{ow ow':Nat→Option Nat}{w w':World}{n:Nat}{c:Chunk}
  (hw:∀b,ow b=some n→w'.heap[b]? =w.heap[b]?) (ho:∀b,ow' b=some n ↔ ow b=some n) (h:c.sat P r ow w n):c.sat P r ow' w' n:=by
 cases c with
 |cells l t=>
  obtain⟨b,c,h1,h2,h3,h4⟩:=h
  exact⟨b,c,h1,(ho b).2 h2,(hw b h2).trans h3,h4⟩
 |map es=>
  obtain⟨b,es',k,h1,h2,h3,h4⟩:=h
  exact⟨b,es',k,h1,(ho b).2 h2,(hw b h2).trans h3,h4⟩
 |sem x=>
  have e:(fun b=>ow' b=some n)=(fun b=>ow b=some n):=funext fun b=>propext (ho b)
  show x.holds w' (fun b=>ow' b=some n)
  rw [e]
  exact x.loc hw h
 |args B w0=>exact fun b hb=>⟨(ho b).2 (h b hb).1,(hw b (h b hb).1).trans (h b hb).2⟩
 |froz S w0=>exact fun b hb=>⟨(ho b).2 (h b hb).1,(hw b (h b hb).1).trans (h b hb).2⟩
 |bag e m=>
  obtain⟨a,l,c,h1,h2,h3⟩:=h
  refine⟨a,l,c,h1,h2,h3.imp id fun⟨b,cs,q1,q2,q3,q4⟩=>⟨b,cs,q1,(ho b).2 q2,(hw b q2).trans q3,q4⟩⟩
 |iter s pos=>
  obtain⟨b,h1,h2,h3⟩:=h
  exact⟨b,h1,(ho b).2 h2,(hw b h2).trans h3⟩
structure Frame (ow:Nat→Option Nat) (w:World) (ow':Nat→Option Nat) (w':World):Prop where
 os:w'.os=w.os
 tape:w'.tape=w.tape
 output:w'.output=w.output
 size:w.heap.size≤w'.heap.size
 aq:∀b,b < w.heap.size→ow b=none→ow' b=none∧w'.heap[b]? =w.heap[b]?
theorem Frame.refl (ow:Nat→Option Nat) (w:World):Frame ow w ow w:=⟨rfl,rfl,rfl,Nat.le_refl _,fun _ _ h=>⟨h,rfl⟩⟩
theorem Frame.trans {o1 o2 o3:Nat→Option Nat}{w1 w2 w3:World} (h:Frame o1 w1 o2 w2) (k:Frame o2 w2 o3 w3):Frame o1 w1 o3 w3:=
 ⟨k.os.trans h.os,k.tape.trans h.tape,k.output.trans h.output,Nat.le_trans h.size k.size,fun b hb ho=>
  have h1:=h.aq b hb ho
  have h2:=k.aq b (Nat.lt_of_lt_of_le hb h.size) h1.1
  ⟨h2.1,h2.2.trans h1.2⟩⟩
def fI (r r':Env) (c c':Nat):Prop:=(∀n,r'.blk n≠none→r.blk n≠none∨(c≤n∧n < c'))∧(∀n,r'.val n≠none→r.val n≠none∨(c≤n∧n < c'))
def bF (r:Env) (c c':Nat):Prop:=∀n,c≤n→n < c'→r.blk n=none∧r.val n=none
theorem fI.refl (r:Env) (c c':Nat):fI r r c c':=⟨fun _ h=> .inl h,fun _ h=> .inl h⟩
theorem fI.trans {a b d:Env}{c1 c2 c3:Nat} (h:fI a b c1 c2) (k:fI b d c2 c3) (h12:c1≤c2) (h23:c2≤c3):fI a d c1 c3:=by
 refine⟨fun n e=> ?_,fun n e=> ?_⟩
 · rcases k.1 n e with e|⟨e1,e2⟩
   · rcases h.1 n e with e|⟨e1,e2⟩
     · exact .inl e
     · exact .inr ⟨e1,by omega⟩
   · exact .inr ⟨by omega,e2⟩
 · rcases k.2 n e with e|⟨e1,e2⟩
   · rcases h.2 n e with e|⟨e1,e2⟩
     · exact .inl e
     · exact .inr ⟨e1,by omega⟩
   · exact .inr ⟨by omega,e2⟩
theorem Env.Le.known {r r':Env} (h:r.Le r') {n:Nat} (k:r.blk n≠none∨r.val n≠none):r'.blk n≠none∨r'.val n≠none:=by
 rcases k with k|k
 · cases e:r.blk n with
   |none=>exact absurd e k
   |some b=>exact .inl (by rw [h.blk n b e];simp)
 · cases e:r.val n with
   |none=>exact absurd e k
   |some b=>exact .inr (by rw [h.val n b e];simp)
theorem bF.after {r r':Env}{c1 c2 c3:Nat} (h:bF r c1 c3) (hn:fI r r' c1 c2) (h12:c1≤c2):bF r' c2 c3:=by
 intro n h1 h2
 have h0:=h n (by omega) h2
 refine⟨?_,?_⟩
 · cases e:r'.blk n with
   |none=>rfl
   |some b=>rcases hn.1 n (by simp [e]) with e'|⟨_,e'⟩
            · exact absurd h0.1 e'
            · omega
 · cases e:r'.val n with
   |none=>rfl
   |some b=>rcases hn.2 n (by simp [e]) with e'|⟨_,e'⟩
            · exact absurd h0.2 e'
            · omega
theorem bF.sub {r:Env}{c1 c2 c3 c4:Nat} (h:bF r c1 c4) (h1:c1≤c2) (h2:c3≤c4):bF r c2 c3:=fun n a b=>h n (by omega) (by omega)
def aZ (B:Nat) (w0:World) (b off:Nat) (vs:List Value):Prop:=
 b < B∧∀(j:Nat) (v:Value),vs[j]? =some v→∃u,w0.cell? ⟨b,off+j,none⟩=some u∧∀r:Env,Rel r v u
def dz (S:List Nat) (w0:World) (b off:Nat) (vs:List Value):Prop:=
 b∈S∧∀(j:Nat) (v:Value),vs[j]? =some v→∃u,w0.cell? ⟨b,off+j,none⟩=some u∧∀r:Env,Rel r v u
inductive VC where
 |b (x:Bool)
 |p (x:Prop)
 |t (v:Value) (x:Bool)
def VC.ok:VC→Prop
 | .b x=>x=true
 | .p x=>x
 | .t _ _=>True
def aW (l:List VC):Prop:=∀v,v∈l→v.ok
inductive bU where
 |normal
 |exit (id:Nat)
 |goto (l:Nat)
 |ret
inductive eA where
 |br (b:Bool)
 |cell (v:Value)
 |loop (live aq:List Nat) (c:Nat) (h:Heap) (e:bU) (T:List Value)
structure St where
 c:Nat
 k:Nat
 h:Heap
 R:List Nat
 W:List Nat
 V:List VC
abbrev bj:=List (Nat×eA)
def bj.look:bj→Nat→Option eA
 | [],_=>none
 |(m,a)::l,n=>if Nat.beq m n then some a else bj.look l n
def X (α:Type):Type:=bj→St→Option (α×St)
namespace X
def pure {α:Type} (a:α):X α:=fun _ s=>some (a,s)
def bind {α β:Type} (x:X α) (f:α→X β):X β:=fun d s=>match x d s with
 |some (a,s')=>f a d s'
 |none=>none
def fail {α:Type}:X α:=fun _ _=>none
instance:Monad X where
 pure:=X.pure
 bind:=X.bind
def rd (n:Nat):X Chunk:=fun _ s=>match s.h.get n with
 |some c=>some (c, { s with R:=n::s.R})
 |none=>none
def wr (n:Nat) (d:Chunk):X Unit:=fun _ s=>match s.h.get n with
 |some _=>some ((), { s with h:=s.h.put n d,W:=n::s.W})
 |none=>none
def new (d:Chunk):X Nat:=fun _ s=>some (s.c, { s with c:=s.c+1,h:=s.h.put s.c d,W:=s.c::s.W})
def drop (n:Nat):X Unit:=fun _ s=>match s.h.get n with
 |some _=>some ((), { s with h:=s.h.del n,W:=n::s.W})
 |none=>none
def tick:X (Option eA):=fun d s=>some (d.look s.k, { s with k:=s.k+1})
def om:X (Option eA):=fun d s=>some (d.look s.k,s)
def emit (v:VC):X Unit:=fun _ s=>some ((), { s with V:=v::s.V})
end X
def Local {α:Type} (x:X α):Prop:=∀d s a s',x d s=some (a,s')→s.c≤s'.c∧∃R W V,s'.R=R++s.R∧s'.W=W++s.W∧s'.V=V++s.V∧
 (∀n,n ∉ W→s'.h.get n=s.h.get n)∧
 ∀s2:St,s2.c=s.c→s2.k=s.k→(∀n,n∈R∨n∈W→s2.h.get n=s.h.get n)→
  ∃h2,x d s2=some (a,⟨s'.c,s'.k,h2,R++s2.R,W++s2.W,V++s2.V⟩)∧(∀n,n∈W→h2.get n=s'.h.get n)∧(∀n,n ∉ W→h2.get n=s2.h.get n)
theorem Local.pure {α:Type} (a:α):Local (X.pure a):=by
 intro d s a' s' h
 obtain⟨rfl,rfl⟩:a=a'∧s=s':=by simpa [X.pure] using h
 exact⟨Nat.le_refl _,[],[],[],rfl,rfl,rfl,fun _ _=>rfl,fun s2 hc hk _=>⟨s2.h,by simp [X.pure,←hc,←hk],by simp,fun _ _=>rfl⟩⟩
theorem Local.fail {α:Type}:Local (X.fail:X α):=by intro d s a s' h;simp [X.fail] at h
theorem Local.bind {α β:Type}{x:X α}{f:α→X β} (hx:Local x) (hf:∀a,Local (f a)):Local (X.bind x f):=by
 intro d s b s'' h
 unfold X.bind at h
 cases hx1:x d s with
 |none=>simp [hx1] at h
 |some p=>
  obtain⟨a,s'⟩:=p
  simp only [hx1] at h
  obtain⟨c1,R1,W1,V1,hR1,hW1,hV1,k1,l1⟩:=hx d s a s' hx1
  obtain⟨c2,R2,W2,V2,hR2,hW2,hV2,k2,l2⟩:=hf a d s' b s'' h
  refine⟨Nat.le_trans c1 c2,R2++R1,W2++W1,V2++V1,by rw [hR2,hR1,List.append_assoc],by rw [hW2,hW1,List.append_assoc],by rw [hV2,hV1,List.append_assoc],fun n hn=> ?_,fun s2 hc hk hag=> ?_⟩
  · simp only [List.mem_append,not_or] at hn
    rw [k2 n hn.1,k1 n hn.2]
  · obtain⟨h2,e1,g1,g2⟩:=l1 s2 hc hk (fun n hn=>hag n (by simp only [List.mem_append];rcases hn with hn|hn;exact .inl (.inr hn);exact .inr (.inr hn)))
    obtain⟨h3,e2,g3,g4⟩:=l2 ⟨s'.c,s'.k,h2,R1++s2.R,W1++s2.W,V1++s2.V⟩ rfl rfl (fun n hn=>by
     by_cases hw:n∈W1
     · exact g1 n hw
     · show h2.get n=s'.h.get n
       rw [g2 n hw,k1 n hw]
       exact hag n (by simp only [List.mem_append];rcases hn with hn|hn;exact .inl (.inl hn);exact .inr (.inl hn)))
    refine⟨h3,?_,fun n hn=> ?_,fun n hn=> ?_⟩
    · unfold X.bind
      rw [e1]
      simpa [List.append_assoc] using e2
    · simp only [List.mem_append] at hn
      by_cases hw:n∈W2
      · exact g3 n hw
      · rw [g4 n hw,k2 n hw]
        rcases hn with hn|hn
        · exact absurd hn hw
        · exact g1 n hn
    · simp only [List.mem_append,not_or] at hn
      rw [g4 n hn.1]
      exact g2 n hn.2
theorem Local.rd (n:Nat):Local (X.rd n):=by
 intro d s a s' h
 unfold X.rd at h
 cases e:s.h.get n with
 |none=>simp [e] at h
 |some c=>
  obtain⟨rfl,rfl⟩:c=a∧_=s':=by simpa [e] using h
  refine⟨Nat.le_refl _,[n],[],[],rfl,rfl,rfl,fun _ _=>rfl,fun s2 hc hk hag=>⟨s2.h,?_,by simp,fun _ _=>rfl⟩⟩
  have:=hag n (by simp)
  simp [X.rd,this,e,←hc,←hk]
theorem Local.wr (n:Nat) (dd:Chunk):Local (X.wr n dd):=by
 intro d s a s' h
 unfold X.wr at h
 cases e:s.h.get n with
 |none=>simp [e] at h
 |some c=>
  simp only [e,Option.some.injEq,Prod.mk.injEq] at h
  obtain⟨_,rfl⟩:=h
  refine⟨Nat.le_refl _,[],[n],[],rfl,rfl,rfl,fun m hm=> ?_,fun s2 hc hk hag=>⟨s2.h.put n dd,?_,fun m hm=> ?_,fun m hm=> ?_⟩⟩
  · simp only [List.mem_singleton] at hm;simp [Heap.cG,hm]
  · have:=hag n (by simp)
    simp [X.wr,this,e,←hc,←hk]
  · simp only [List.mem_singleton] at hm;simp [Heap.cG,hm]
  · simp only [List.mem_singleton] at hm;simp [Heap.cG,hm]
theorem Local.drop (n:Nat):Local (X.drop n):=by
 intro d s a s' h
 unfold X.drop at h
 cases e:s.h.get n with
 |none=>simp [e] at h
 |some c=>
  simp only [e,Option.some.injEq,Prod.mk.injEq] at h
  obtain⟨_,rfl⟩:=h
  refine⟨Nat.le_refl _,[],[n],[],rfl,rfl,rfl,fun m hm=> ?_,fun s2 hc hk hag=>⟨s2.h.del n,?_,fun m hm=> ?_,fun m hm=> ?_⟩⟩
  · simp only [List.mem_singleton] at hm;simp [Heap.lx,hm]
  · have:=hag n (by simp)
    simp [X.drop,this,e,←hc,←hk]
  · simp only [List.mem_singleton] at hm;simp [Heap.lx,hm]
  · simp only [List.mem_singleton] at hm;simp [Heap.lx,hm]
theorem Local.new (dd:Chunk):Local (X.new dd):=by
 intro d s a s' h
 simp only [X.new,Option.some.injEq,Prod.mk.injEq] at h
 obtain⟨rfl,rfl⟩:=h
 refine⟨Nat.le_succ _,[],[s.c],[],rfl,rfl,rfl,fun m hm=> ?_,fun s2 hc hk hag=>⟨s2.h.put s.c dd,?_,fun m hm=> ?_,fun m hm=> ?_⟩⟩
 · simp only [List.mem_singleton] at hm;simp [Heap.cG,hm]
 · simp [X.new,←hc,←hk]
 · simp only [List.mem_singleton] at hm;simp [Heap.cG,hm]
 · simp only [List.mem_singleton] at hm;simp [Heap.cG,hm]
theorem Local.tick:Local X.tick:=by
 intro d s a s' h
 simp only [X.tick,Option.some.injEq,Prod.mk.injEq] at h
 obtain⟨rfl,rfl⟩:=h
 exact⟨Nat.le_refl _,[],[],[],rfl,rfl,rfl,fun _ _=>rfl,fun s2 hc hk _=>⟨s2.h,by simp [X.tick,←hc,←hk],by simp,fun _ _=>rfl⟩⟩
theorem Local.om:Local X.om:=by
 intro d s a s' h
 simp only [X.om,Option.some.injEq,Prod.mk.injEq] at h
 obtain⟨rfl,rfl⟩:=h
 exact⟨Nat.le_refl _,[],[],[],rfl,rfl,rfl,fun _ _=>rfl,fun s2 hc hk _=>⟨s2.h,by simp [X.om,←hc,←hk],by simp,fun _ _=>rfl⟩⟩
theorem Local.emit (v:VC):Local (X.emit v):=by
 intro d s a s' h
 simp only [X.emit,Option.some.injEq,Prod.mk.injEq] at h
 obtain⟨_,rfl⟩:=h
 exact⟨Nat.le_refl _,[],[],[v],rfl,rfl,rfl,fun _ _=>rfl,fun s2 hc hk _=>⟨s2.h,by simp [X.emit,←hc,←hk],by simp,fun _ _=>rfl⟩⟩
section
inductive jm where
 |val (v:Value)
 |unit
 |call (f:FuncId) (args:List Value)
def opt {α:Type}:Option α→X α
 |some a=>X.pure a
 |none=>X.fail
def bP (b:Bool):X Unit:=match b with
 |true=>X.pure ()
 |false=>X.fail
def ask (b:Bool):X Bool:=X.bind X.tick fun a=>match a with
 |some (.br t)=>X.bind (X.emit (.b (b==t))) fun _=>X.pure t
 |some (.cell v)=>X.bind (X.emit (.t v b)) fun _=>X.pure b
 |_=>X.pure b
def eW (b:Bool):X Unit:=X.bind X.tick fun a=>match a with
 |some (.br true)=>X.emit (.b b)
 |some (.cell v)=>X.bind (X.emit (.t v b)) fun _=>bP b
 |_=>bP b
def addrOf:Value→X (Nat×Nat)
 | .pointer (some ⟨n,off,none⟩)=>X.pure (n,off)
 |_=>X.fail
def dZ (P:Program) (t:TypeId):X Nat:=match P.info? t with
 |some i=>X.pure i.size
 |none=>X.fail
def fO (P:Program) (t:TypeId):X Bool:=match P.underlying t with
 |some (.struct _)=>X.pure true
 |some (.array _ _)=>X.pure true
 |some _=>X.pure false
 |none=>X.fail
def zeroV (P:Program) (t:TypeId):X Value:=match P.info? t with
 |some i=>match i.zero with
  |some z=>X.bind (bP (iz (du z))) fun _=>X.pure z
  |none=>X.fail
 |none=>X.fail
def bO (n off sz:Nat):X (List Value):=X.bind (X.rd n) fun c=>match c with
 | .cells l _=>X.bind X.tick fun a=>match a with
  |some (.cell (.tuple ⟨vs⟩))=>X.bind (X.emit (.p ((l.drop off).take sz=vs∧vs.length=sz))) fun _=>X.pure vs
  |some (.cell (.int k m))=>X.bind (bP (Nat.beq ((l.drop off).take sz).length sz)) fun _=>X.bind (X.emit (.t (.tuple ⟨[.int k m,.int k (n:Int),.int k (off:Int),.int k (sz:Int)]⟩) true)) fun _=>X.pure ((l.drop off).take sz)
  |_=>X.bind (bP (Nat.beq ((l.drop off).take sz).length sz)) fun _=>X.pure ((l.drop off).take sz)
 |_=>X.fail
def aH:List Value→Nat→List Value→List Value
 |l,_,[]=>l
 |l,off,v::vs=>aH (l.set off v) (off+1) vs
def jr (k b off sz:Nat):X (List Value):=X.bind (X.rd k) fun c=>match c with
 | .args B w0=>X.bind X.tick fun a=>match a with
  |some (.cell (.tuple ⟨vs⟩))=>X.bind (X.emit (.p (aZ B w0 b off vs∧vs.length=sz))) fun _=>X.pure vs
  |_=>X.fail
 | .froz S w0=>X.bind X.tick fun a=>match a with
  |some (.cell (.tuple ⟨vs⟩))=>X.bind (X.emit (.p (dz S w0 b off vs∧vs.length=sz))) fun _=>X.pure vs
  |_=>X.fail
 |_=>X.fail
def kZ (P:Program) (t:TypeId) (b off k:Nat):X Value:=X.bind (fO P t) fun g=>match g with
 |true=>X.bind (dZ P t) fun sz=>X.bind (jr k b off sz) fun vs=>X.pure (.agg ⟨vs⟩)
 |false=>X.bind (jr k b off 1) fun vs=>match vs with
  | [v]=>X.pure v
  |_=>X.fail
def jw (P:Program) (t:TypeId) (a:Value):X Value:=
 X.bind (addrOf a) fun p=>X.bind (fO P t) fun g=>match g with
  |true=>X.bind (dZ P t) fun sz=>X.bind (bO p.1 p.2 sz) fun vs=>X.pure (.agg ⟨vs⟩)
  |false=>X.bind (bO p.1 p.2 1) fun vs=>match vs with
   | [v]=>X.pure v
   |_=>X.fail
def jd (P:Program) (t:TypeId) (a:Value):X Value:=match a with
 | .pointer (some ⟨b,off,some k⟩)=>kZ P t b off k
 |_=>jw P t a
def cK {α:Type}:Nat→List α→Bool
 |0,_=>true
 |_+1,[]=>false
 |n+1,_::l=>cK n l
theorem sa {α:Type}:∀ {n:Nat}{l:List α},cK n l=true→n≤l.length
 |0,_,_=>Nat.zero_le _
 |n+1,[],h=>by simp [cK] at h
 |n+1,_::l,h=>Nat.succ_le_succ (sa (n:=n) (l:=l) h)
def jM (P:Program) (t:TypeId) (a x:Value):X Unit:=
 X.bind (addrOf a) fun p=>X.bind (dZ P t) fun sz=>X.bind (bP (!mZ x)) fun _=>X.bind (bP (Nat.beq (du x).length sz)) fun _=>
  X.bind (bP ((du x).all ed)) fun _=>X.bind (X.rd p.1) fun c=>match c with
   | .cells l t0=>X.bind (eW (cK (p.2+sz) l)) fun _=>X.wr p.1 (.cells (aH l p.2 (du x)) t0)
   |_=>X.fail
def jR (P:Program) (t:TypeId) (a:Value) (n:Nat):X Unit:=
 X.bind (addrOf a) fun p=>X.bind (dZ P t) fun sz=>X.bind (bP (Nat.beq sz 1)) fun _=>X.bind (X.rd n) fun b=>match b with
  | .bag _ _=>X.bind (X.rd p.1) fun c=>match c with
   | .cells l t0=>X.bind (eW (cK (p.2+1) l)) fun _=>X.wr p.1 (.cells (aH l p.2 [.chan (some n)]) t0)
   |_=>X.fail
  |_=>X.fail
def lh (P:Program) (t:TypeId) (a x:Value):X Unit:=match x with
 | .chan (some n)=>jR P t a n
 |_=>jM P t a x
def ky (t:TypeId) (cs:List Value):X Nat:=X.new (.cells cs t)
def mV (P:Program) (t:TypeId) (x:Value):X Value:=
 X.bind (dZ P t) fun sz=>X.bind (bP (!mZ x)) fun _=>X.bind (bP (Nat.beq (du x).length sz)) fun _=>X.bind (ky t (du x)) fun n=>X.pure (.pointer (some ⟨n,0,none⟩))
section
variable {α β:Type}{d:bj}{s s':St}
theorem bind_some {x:X α}{f:α→X β}{b:β} (h:X.bind x f d s=some (b,s')):∃a s1,x d s=some (a,s1)∧f a d s1=some (b,s'):=by
 unfold X.bind at h
 cases e:x d s with
 |none=>simp [e] at h
 |some p=>exact⟨p.1,p.2,rfl,by simpa [e] using h⟩
theorem au {a b:α} (h:X.pure a d s=some (b,s')):a=b∧s=s':=by simpa [X.pure] using h
theorem gR {o:Option α}{b:α} (h:opt o d s=some (b,s')):o=some b∧s=s':=by
 cases o with
 |none=>simp [opt,X.fail] at h
 |some a=>obtain⟨rfl,rfl⟩:=au (d:=d) h;exact⟨rfl,rfl⟩
theorem b7 {b:Bool}{u:Unit} (h:bP b d s=some (u,s')):b=true∧s=s':=by
 cases b with
 |false=>simp [bP,X.fail] at h
 |true=>exact⟨rfl,(au (d:=d) h).2⟩
theorem rd_some {n:Nat}{c:Chunk} (h:X.rd n d s=some (c,s')):s.h.get n=some c∧s'= { s with R:=n::s.R}:=by
 unfold X.rd at h
 cases e:s.h.get n with
 |none=>simp [e] at h
 |some c=>simp only [e,Option.some.injEq,Prod.mk.injEq] at h;exact⟨by rw [h.1],h.2.symm⟩
theorem lf {n:Nat}{c:Chunk}{u:Unit} (h:X.wr n c d s=some (u,s')):(∃c0,s.h.get n=some c0)∧s'= { s with h:=s.h.put n c,W:=n::s.W}:=by
 unfold X.wr at h
 cases e:s.h.get n with
 |none=>simp [e] at h
 |some c=>simp only [e,Option.some.injEq,Prod.mk.injEq] at h;exact⟨⟨_,rfl⟩,h.2.symm⟩
theorem wI {n:Nat}{u:Unit} (h:X.drop n d s=some (u,s')):(∃c0,s.h.get n=some c0)∧s'= { s with h:=s.h.del n,W:=n::s.W}:=by
 unfold X.drop at h
 cases e:s.h.get n with
 |none=>simp [e] at h
 |some c=>simp only [e,Option.some.injEq,Prod.mk.injEq] at h;exact⟨⟨_,rfl⟩,h.2.symm⟩
theorem hU {n:Nat}{c:Chunk} (h:X.new c d s=some (n,s')):n=s.c∧s'= { s with c:=s.c+1,h:=s.h.put s.c c,W:=s.c::s.W}:=by
 simp only [X.new,Option.some.injEq,Prod.mk.injEq] at h;exact⟨h.1.symm,h.2.symm⟩
theorem kb {a:Option eA} (h:X.tick d s=some (a,s')):s'= { s with k:=s.k+1}:=by
 simp only [X.tick,Option.some.injEq,Prod.mk.injEq] at h;exact h.2.symm
theorem Gc {v:VC}{u:Unit} (h:X.emit v d s=some (u,s')):s'= { s with V:=v::s.V}:=by
 simp only [X.emit,Option.some.injEq,Prod.mk.injEq] at h;exact h.2.symm
structure Calm (s s':St):Prop where
 h:s'.h=s.h
 c:s'.c=s.c
 V:aW s'.V→aW s.V
theorem Calm.refl (s:St):Calm s s:=⟨rfl,rfl,id⟩
theorem Calm.trans {a b c:St} (h:Calm a b) (k:Calm b c):Calm a c:=⟨k.h.trans h.h,k.c.trans h.c,fun v=>h.V (k.V v)⟩
theorem nN {v:VC}{l:List VC} (h:aW (v::l)):aW l:=fun x hx=>h x (List.mem_cons_of_mem _ hx)
theorem nZ {v:VC}{l:List VC} (h:aW (v::l)):v.ok:=h v List.mem_cons_self
theorem iW {n:Nat}{c:Chunk} (h:X.rd n d s=some (c,s')):s.h.get n=some c∧Calm s s':=by
 obtain⟨h1,rfl⟩:=rd_some h;exact⟨h1,rfl,rfl,id⟩
theorem iu {a:Option eA} (h:X.tick d s=some (a,s')):Calm s s':=by
 obtain rfl:=kb h;exact⟨rfl,rfl,id⟩
theorem fC {v:VC}{u:Unit} (h:X.emit v d s=some (u,s')):Calm s s'∧(aW s'.V→v.ok):=by
 obtain rfl:=Gc h;exact⟨⟨rfl,rfl,nN⟩,nZ⟩
theorem jS {b t:Bool} (h:ask b d s=some (t,s')):Calm s s'∧(aW s'.V→b=t):=by
 unfold ask at h
 obtain⟨a,s1,h1,h2⟩:=bind_some h
 have c1:=iu h1
 split at h2
 · obtain⟨u,s2,h3,h4⟩:=bind_some h2
   obtain⟨rfl,rfl⟩:=au h4
   obtain⟨c2,e2⟩:=fC h3
   exact⟨c1.trans c2,fun v=>by simpa [VC.ok] using e2 v⟩
 · obtain⟨u,s2,h3,h4⟩:=bind_some h2
   obtain⟨rfl,rfl⟩:=au h4
   obtain⟨c2,e2⟩:=fC h3
   exact⟨c1.trans c2,fun _=>rfl⟩
 · obtain⟨rfl,rfl⟩:=au h2
   exact⟨c1,fun _=>rfl⟩
theorem eY {b:Bool}{u:Unit} (h:eW b d s=some (u,s')):Calm s s'∧(aW s'.V→b=true):=by
 unfold eW at h
 obtain⟨a,s1,h1,h2⟩:=bind_some h
 have c1:=iu h1
 split at h2
 · obtain⟨c2,e2⟩:=fC h2
   exact⟨c1.trans c2,fun v=>e2 v⟩
 · obtain⟨u,s2,h3,h4⟩:=bind_some h2
   obtain⟨c2,e2⟩:=fC h3
   obtain⟨h5,rfl⟩:=b7 h4
   exact⟨c1.trans c2,fun _=>h5⟩
 · obtain⟨h3,rfl⟩:=b7 h2
   exact⟨c1,fun _=>h3⟩
theorem oG {v:Value}{p:Nat×Nat} (h:addrOf v d s=some (p,s')):v= .pointer (some ⟨p.1,p.2,none⟩)∧s=s':=by
 unfold addrOf at h
 split at h
 · obtain⟨rfl,rfl⟩:=au h;exact⟨rfl,rfl⟩
 · simp [X.fail] at h
theorem ik {P:Program}{t:TypeId}{n:Nat} (h:dZ P t d s=some (n,s')):(∃i,P.info? t=some i∧i.size=n)∧s=s':=by
 unfold dZ at h
 cases e:P.info? t with
 |none=>simp [e,X.fail] at h
 |some i=>
  simp only [e] at h
  obtain⟨rfl,rfl⟩:=au h
  exact⟨⟨_,rfl,rfl⟩,rfl⟩
def lW:TypeDesc→Bool
 | .struct _=>true
 | .array _ _=>true
 |_=>false
theorem qz {P:Program}{t:TypeId}{g:Bool} (h:fO P t d s=some (g,s')):(∃D,P.underlying t=some D∧g=lW D)∧s=s':=by
 unfold fO at h
 cases e:P.underlying t with
 |none=>simp [e,X.fail] at h
 |some D=>
  simp only [e] at h
  cases D <;> (obtain⟨rfl,rfl⟩:=au h;exact⟨⟨_,rfl,rfl⟩,rfl⟩)
theorem lZ {P:Program}{t:TypeId}{z:Value} (h:zeroV P t d s=some (z,s')):(∃i,P.info? t=some i∧i.zero=some z)∧iz (du z)=true∧s=s':=by
 unfold zeroV at h
 cases e:P.info? t with
 |none=>simp [e,X.fail] at h
 |some i=>
  simp only [e] at h
  cases e2:i.zero with
  |none=>simp [e2,X.fail] at h
  |some z'=>
   simp only [e2] at h
   obtain⟨u,s1,h1,h2⟩:=bind_some h
   obtain⟨h3,rfl⟩:=b7 h1
   obtain⟨rfl,rfl⟩:=au h2
   exact⟨⟨_,rfl,e2⟩,h3,rfl⟩
theorem gK {n off sz:Nat}{vs:List Value} (h:bO n off sz d s=some (vs,s')):
  Calm s s'∧∃l t,s.h.get n=some (.cells l t)∧(aW s'.V→vs=(l.drop off).take sz∧vs.length=sz):=by
 unfold bO at h
 obtain⟨c,s1,h1,h2⟩:=bind_some h
 obtain⟨g,c1⟩:=iW h1
 split at h2
 · rename_i l t
   obtain⟨a,s2,h3,h4⟩:=bind_some h2
   have c2:=iu h3
   split at h4
   · obtain⟨u,s3,h5,h6⟩:=bind_some h4
     obtain⟨c3,e3⟩:=fC h5
     obtain⟨rfl,rfl⟩:=au h6
     exact⟨(c1.trans c2).trans c3,l,t,g,fun v=>⟨(e3 v).1.symm,(e3 v).2⟩⟩
   · obtain⟨u,s3,h5,h6⟩:=bind_some h4
     obtain⟨e3,rfl⟩:=b7 h5
     obtain⟨u2,s4,h7,h8⟩:=bind_some h6
     obtain⟨c3,_⟩:=fC h7
     obtain⟨rfl,rfl⟩:=au h8
     exact⟨(c1.trans c2).trans c3,l,t,g,fun _=>⟨rfl,Nat.eq_of_beq_eq_true e3⟩⟩
   · obtain⟨u,s3,h5,h6⟩:=bind_some h4
     obtain⟨e3,rfl⟩:=b7 h5
     obtain⟨rfl,rfl⟩:=au h6
     exact⟨c1.trans c2,l,t,g,fun _=>⟨rfl,Nat.eq_of_beq_eq_true e3⟩⟩
 · simp [X.fail] at h2
theorem z7 {k b off sz:Nat}{vs:List Value} (h:jr k b off sz d s=some (vs,s')):
  Calm s s'∧∃w0:World,(aW s'.V→∀(P:Program) (r:Env) (ow:Nat→Option Nat) (w:World),Sat P r ow s.h w→w.heap[b]? =w0.heap[b]?)∧
   (aW s'.V→(∀(j:Nat) (v:Value),vs[j]? =some v→∃u,w0.cell? ⟨b,off+j,none⟩=some u∧∀r:Env,Rel r v u)∧vs.length=sz):=by
 unfold jr at h
 obtain⟨c,s1,h1,h2⟩:=bind_some h
 obtain⟨g,c1⟩:=iW h1
 split at h2
 · rename_i B w0
   obtain⟨a,s2,h3,h4⟩:=bind_some h2
   have c2:=iu h3
   split at h4
   · obtain⟨u,s3,h5,h6⟩:=bind_some h4
     obtain⟨c3,e3⟩:=fC h5
     obtain⟨rfl,rfl⟩:=au h6
     exact⟨(c1.trans c2).trans c3,w0,fun v P r ow w hs=>(hs.chunk _ _ g b (e3 v).1.1).2,fun v=>⟨(e3 v).1.2,(e3 v).2⟩⟩
   · simp [X.fail] at h4
 · rename_i S w0
   obtain⟨a,s2,h3,h4⟩:=bind_some h2
   have c2:=iu h3
   split at h4
   · obtain⟨u,s3,h5,h6⟩:=bind_some h4
     obtain⟨c3,e3⟩:=fC h5
     obtain⟨rfl,rfl⟩:=au h6
     exact⟨(c1.trans c2).trans c3,w0,fun v P r ow w hs=>(hs.chunk _ _ g b (e3 v).1.1).2,fun v=>⟨(e3 v).1.2,(e3 v).2⟩⟩
   · simp [X.fail] at h4
 · simp [X.fail] at h2
end
theorem Local.opt {α:Type} (o:Option α):Local (opt o):=by cases o;exact Local.fail;exact Local.pure _
theorem Local.bP (b:Bool):Local (bP b):=by cases b;exact Local.fail;exact Local.pure _
theorem Local.ask (b:Bool):Local (ask b):=by
 unfold Sx.ask
 refine Local.bind Local.tick fun a=> ?_
 split
 · exact Local.bind (Local.emit _) fun _=>Local.pure _
 · exact Local.bind (Local.emit _) fun _=>Local.pure _
 · exact Local.pure _
theorem Local.eW (b:Bool):Local (eW b):=by
 unfold Sx.eW
 refine Local.bind Local.tick fun a=> ?_
 split
 · exact Local.emit _
 · exact Local.bind (Local.emit _) fun _=>Local.bP _
 · exact Local.bP _
theorem Local.addrOf (v:Value):Local (addrOf v):=by unfold Sx.addrOf;split;exact Local.pure _;exact Local.fail
theorem Local.dZ (P:Program) (t:TypeId):Local (dZ P t):=by unfold Sx.dZ;split;exact Local.pure _;exact Local.fail
theorem Local.fO (P:Program) (t:TypeId):Local (fO P t):=by
 unfold Sx.fO;split;exact Local.pure _;exact Local.pure _;exact Local.pure _;exact Local.fail
theorem Local.zeroV (P:Program) (t:TypeId):Local (zeroV P t):=by
 unfold Sx.zeroV;split
 · split
   · exact Local.bind (Local.bP _) fun _=>Local.pure _
   · exact Local.fail
 · exact Local.fail
theorem Local.bO (n off sz:Nat):Local (bO n off sz):=by
 unfold Sx.bO
 refine Local.bind (Local.rd _) fun c=> ?_
 split
 · refine Local.bind Local.tick fun a=> ?_
   split
   · exact Local.bind (Local.emit _) fun _=>Local.pure _
   · exact Local.bind (Local.bP _) fun _=>Local.bind (Local.emit _) fun _=>Local.pure _
   · exact Local.bind (Local.bP _) fun _=>Local.pure _
 · exact Local.fail
theorem Local.jr (k b off sz:Nat):Local (jr k b off sz):=by
 unfold Sx.jr
 refine Local.bind (Local.rd _) fun c=> ?_
 split
 · refine Local.bind Local.tick fun a=> ?_
   split
   · exact Local.bind (Local.emit _) fun _=>Local.pure _
   · exact Local.fail
 · refine Local.bind Local.tick fun a=> ?_
   split
   · exact Local.bind (Local.emit _) fun _=>Local.pure _
   · exact Local.fail
 · exact Local.fail
theorem Local.kZ (P:Program) (t:TypeId) (b off k:Nat):Local (kZ P t b off k):=by
 unfold Sx.kZ
 refine Local.bind (Local.fO _ _) fun g=> ?_
 split
 · exact Local.bind (Local.dZ _ _) fun _=>Local.bind (Local.jr _ _ _ _) fun _=>Local.pure _
 · refine Local.bind (Local.jr _ _ _ _) fun vs=> ?_
   split
   · exact Local.pure _
   · exact Local.fail
theorem Local.jw (P:Program) (t:TypeId) (a:Value):Local (jw P t a):=by
 unfold Sx.jw
 refine Local.bind (Local.addrOf _) fun p=>Local.bind (Local.fO _ _) fun g=> ?_
 split
 · exact Local.bind (Local.dZ _ _) fun _=>Local.bind (Local.bO _ _ _) fun _=>Local.pure _
 · refine Local.bind (Local.bO _ _ _) fun vs=> ?_
   split
   · exact Local.pure _
   · exact Local.fail
theorem Local.jd (P:Program) (t:TypeId) (a:Value):Local (jd P t a):=by
 unfold Sx.jd
 split
 · exact Local.kZ _ _ _ _ _
 · exact Local.jw _ _ _
theorem Local.jM (P:Program) (t:TypeId) (a x:Value):Local (jM P t a x):=by
 unfold Sx.jM
 refine Local.bind (Local.addrOf _) fun p=>Local.bind (Local.dZ _ _) fun _=>Local.bind (Local.bP _) fun _=>Local.bind (Local.bP _) fun _=>Local.bind (Local.bP _) fun _=>Local.bind (Local.rd _) fun c=> ?_
 split
 · exact Local.bind (Local.eW _) fun _=>Local.wr _ _
 · exact Local.fail
theorem Local.jR (P:Program) (t:TypeId) (a:Value) (n:Nat):Local (jR P t a n):=by
 unfold Sx.jR
 refine Local.bind (Local.addrOf _) fun p=>Local.bind (Local.dZ _ _) fun _=>Local.bind (Local.bP _) fun _=>Local.bind (Local.rd _) fun b=> ?_
 split
 · refine Local.bind (Local.rd _) fun c=> ?_
   split
   · exact Local.bind (Local.eW _) fun _=>Local.wr _ _
   · exact Local.fail
 · exact Local.fail
theorem Local.lh (P:Program) (t:TypeId) (a x:Value):Local (lh P t a x):=by
 unfold Sx.lh
 split
 · exact Local.jR _ _ _ _
 · exact Local.jM _ _ _ _
theorem Local.mV (P:Program) (t:TypeId) (x:Value):Local (mV P t x):=
 Local.bind (Local.dZ _ _) fun _=>Local.bind (Local.bP _) fun _=>Local.bind (Local.bP _) fun _=>Local.bind (Local.new _) fun _=>Local.pure _
end
section
structure vR (w:World) (b:Nat) (o:Obj) (w':World):Prop where
 os:w'.os=w.os
 tape:w'.tape=w.tape
 output:w'.output=w.output
 size:w'.heap.size=w.heap.size
 at_:w'.heap[b]? =some o
 other:∀k,k≠b→w'.heap[k]? =w.heap[k]?
theorem zh {P:Program}{t:TypeId}{i:TypeInfo} (h:P.info? t=some i) (w:World):(typeInfo t).run P w= .ok i w:=by simp [typeInfo,h]
theorem ew {P:Program}{t:TypeId}{i:TypeInfo} (h:P.info? t=some i) (w:World):(sizeOf t).run P w= .ok i.size w:=by simp [sizeOf,zh h]
theorem qh {P:Program}{t:TypeId}{i:TypeInfo}{z:Value} (h:P.info? t=some i) (hz:i.zero=some z) (w:World):(zeroValue t).run P w= .ok z w:=by simp [zeroValue,zh h,hz]
theorem eT {P:Program}{t:TypeId}{i:TypeInfo} (h:P.info? t=some i):P.cellsOf t=i.size:=by simp [Program.cellsOf,h]
theorem ga {P:Program}{t:TypeId}{D:TypeDesc} (h:P.underlying t=some D) (w:World):(isAgg t).run P w= .ok (lW D) w:=by
 unfold isAgg
 simp only [Sem.run_bind,run_underlying h,Result.andThen_ok]
 cases D <;> rfl
theorem cell_of {w:World}{b off:Nat}{c:Array Value}{t:TypeId}{fr:Nat×Nat} (h:w.heap[b]? =some (.cells c t fr)):w.cell? ⟨b,off,none⟩=c[off]? :=by simp [World.cell?,h]
theorem GI {w:World}{b off:Nat}{c:Array Value}{t:TypeId} (h:w.heap[b]? =some (.cells c t (0,0))):w.frozen? ⟨b,off,none⟩=false:=by simp [World.frozen?,h]
theorem kj (b off j:Nat):(⟨b,off,none⟩:Addr).add j=⟨b,off+j,none⟩:=by
 unfold Addr.add;split
 · rename_i e;subst e;rfl
 · rfl
theorem oO {P:Program}{w:World}{b off n:Nat}{c:Array Value}{t:TypeId}{fr:Nat×Nat} (h:w.heap[b]? =some (.cells c t fr)) (hl:((c.toList.drop off).take n).length=n):
  (loadCells ⟨b,off,none⟩ n).run P w= .ok ⟨(c.toList.drop off).take n⟩ w:=by
 have:=run_loadCells_list (P:=P) w ⟨b,off,none⟩ ((c.toList.drop off).take n) (fun j v hj=>by
  rw [kj,cell_of h]
  have h1:((c.toList.drop off).take n)[j]? =some v:=hj
  rw [List.getElem?_take] at h1
  split at h1
  · simpa [List.getElem?_drop] using h1
  · cases h1)
 rw [hl] at this
 exact this
theorem cJ:∀(vs l:List Value) (off:Nat),(aH l off vs).length=l.length
 | [],_,_=>rfl
 |v::vs,l,off=>by simp [aH,cJ vs]
theorem uO {r:Env}{vs us:List Value} (h:aw r vs us):∀ {l m:List Value} (off:Nat),aw r l m→aw r (aH l off vs) (aH m off us):=by
 induction h with
 |nil=>intro l m off hl;exact hl
 |cons h _ ih=>intro l m off hl;exact ih (off+1) (hl.set h off)
theorem td:∀(us:List Value) (m:List Value) (off L:Nat),(aH m off us).take L=aH (m.take L) off us
 | [],_,_,_=>rfl
 |u::us,m,off,L=>by simp only [aH];rw [td us,List.take_set]
theorem ir {P:Program}{b off:Nat}{t:TypeId}:∀(vs:List Value) (i:Nat) (c:Array Value) (w:World),w.heap[b]? =some (.cells c t (0,0))→off+i+vs.length≤c.size→
  (∀v,v∈vs→(∀xs,v≠ .agg xs)∧(∀xs,v≠ .tuple xs))→∃w',(storeCells ⟨b,off,none⟩ vs i).run P w= .ok () w'∧vR w b (.cells ⟨aH c.toList (off+i) vs⟩ t (0,0)) w'
 | [],i,c,w,h,_,_=>⟨w,rfl,rfl,rfl,rfl,rfl,by simpa [aH] using h,fun _ _=>rfl⟩
 |v::vs,i,c,w,h,hl,hv=>by
  have hlt:off+i < c.size:=by simp at hl;omega
  have hb:b < w.heap.size:=by
   rcases Nat.lt_or_ge b w.heap.size with h1|h1
   · exact h1
   · rw [Array.getElem?_eq_none h1] at h;cases h
  have h1:w.cell? ⟨b,off+i,none⟩=some c[off+i]:=by rw [cell_of h];simp [hlt]
  have hone:v.oneCell'=true:=by
   have:=hv v List.mem_cons_self
   cases v <;> first|rfl|exact absurd rfl (this.1 _)|exact absurd rfl (this.2 _)
  have h2:(store ((⟨b,off,none⟩:Addr).add i) v).run P w= .ok () (w.setCell ⟨b,off+i,none⟩ v):=by
   rw [run_store P w _ v _ hone,kj,h1,GI h];rfl
  have h3:(w.setCell ⟨b,off+i,none⟩ v).heap[b]? =some (.cells ⟨c.toList.set (off+i) v⟩ t (0,0)):=by
   simp only [World.setCell,Array.getElem?_modify,if_true,h,Option.map_some]
   simp [Array.setIfInBounds,hlt,Array.set]
  obtain⟨w',e1,e2⟩:=ir (P:=P) (b:=b) (off:=off) vs (i+1) ⟨c.toList.set (off+i) v⟩ (w.setCell ⟨b,off+i,none⟩ v) h3 (by simp at hl ⊢;omega) (fun u hu=>hv u (List.mem_cons_of_mem _ hu))
  refine⟨w',?_,e2.os,e2.tape,e2.output,?_,?_,fun k hk=> ?_⟩
  · simp only [storeCells,Sem.run_bind,h2,Result.andThen_ok];exact e1
  · rw [e2.size];simp
  · rw [e2.at_];simp only [aH];rw [Nat.add_assoc]
  · rw [e2.other k hk];simp only [World.setCell,Array.getElem?_modify];rw [if_neg (by omega)]
section
variable {P:Program}{r:Env}{ow:Nat→Option Nat}{h:Heap}{w w':World}
theorem Sat.pN (hs:Sat P r ow h w) {n b:Nat}{o:Obj}{dd:Chunk} (ho:ow b=some n) (hw:vR w b o w') (hc:dd.sat P r ow w' n):Sat P r ow (h.put n dd) w' where
 chunk:=fun m c hm=>by
  rw [Heap.cG] at hm
  split at hm
  · rename_i e;subst e;cases hm;exact hc
  · rename_i e
    refine Chunk.cR (fun k hk=>hw.other k (fun e2=> ?_)) (fun _=>Iff.rfl) (hs.chunk m c hm)
    subst e2;rw [ho] at hk;cases hk;exact e rfl
 bound:=fun k m hk=>by rw [hw.size];exact hs.bound k m hk
 known:=hs.known
theorem Frame.pN {n b:Nat}{o:Obj} (ho:ow b=some n) (hw:vR w b o w'):Frame ow w ow w':=
 ⟨hw.os,hw.tape,hw.output,Nat.le_of_eq hw.size.symm,fun k _ hk=>⟨hk,hw.other k (fun e=>by subst e;rw [ho] at hk;cases hk)⟩⟩
theorem Sat.del (hs:Sat P r ow h w) (n:Nat):Sat P r ow (h.del n) w where
 chunk:=fun m c hm=>by
  rw [Heap.lx] at hm
  split at hm
  · cases hm
  · exact hs.chunk m c hm
 bound:=hs.bound
 known:=hs.known
theorem Sat.get_eq {h':Heap} (hs:Sat P r ow h w) (he:∀n,h'.get n=h.get n):Sat P r ow h' w:=⟨fun n c hn=>hs.chunk n c (by rw [←he];exact hn),hs.bound,hs.known⟩
theorem Sat.drew (hs:Sat P r ow h w) {w':World} (hh:w'.heap=w.heap):Sat P r ow h w':=
 ⟨fun n c hn=>Chunk.cR (fun b _=>by rw [hh]) (fun _=>Iff.rfl) (hs.chunk n c hn),fun b n e=>by rw [hh];exact hs.bound b n e,hs.known⟩
def Env.bind (r:Env) (n b k:Nat):Env:= { r with blk:=fun m=>if m=n then some b else r.blk m,cap:=fun m=>if m=n then k else r.cap m}
theorem Env.gg {n b k:Nat} (hn:r.blk n=none):r.Le (r.bind n b k):=
 ⟨fun m x e=>by show(if m=n then some b else r.blk m)=some x;rw [if_neg (fun e2=>by subst e2;rw [hn] at e;cases e)];exact e,
  fun m x e=>by show(if m=n then k else r.cap m)=r.cap m;rw [if_neg (fun e2=>by subst e2;rw [hn] at e;cases e)],fun _ _ e=>e⟩
theorem fI.bind {n b k:Nat}:fI r (r.bind n b k) n (n+1):=
 ⟨fun m e=>by
  by_cases e2:m=n
  · exact .inr (by omega)
  · exact .inl (by simpa [Env.bind,e2] using e),fun m e=> .inl e⟩
def own (ow:Nat→Option Nat) (b n:Nat):Nat→Option Nat:=fun k=>if k=b then some n else ow k
theorem Sat.new (hs:Sat P r ow h w) {n k:Nat}{l cs:List Value}{t:TypeId} (hn:r.blk n=none) (hl:aw r l (cs.take l.length)) (hle:l.length≤cs.length) (hk:cs.length=k*P.cellsOf t):
  Sat P (r.bind n w.heap.size k) (own ow w.heap.size n) (h.put n (.cells l t)) { w with heap:=w.heap.push (.cells ⟨cs⟩ t)} where
 chunk:=fun m c hm=>by
  rw [Heap.cG] at hm
  split at hm
  · rename_i e;subst e;cases hm
    exact⟨w.heap.size,⟨cs⟩,by simp [Env.bind],by simp [own],by simp,(hl.mono (Env.gg hn)),by simpa using hle,by simpa [Env.bind] using hk⟩
  · rename_i e
    refine Chunk.cR (w:=w) (ow:=ow) (fun b hb=> ?_) (fun b=> ?_) (Chunk.dX (Env.gg hn) (hs.chunk m c hm))
    · have:=hs.bound b m hb
      simp [Array.getElem?_push,Nat.ne_of_lt this]
    · unfold own
      split
      · rename_i e2;subst e2
        exact⟨fun e3=>absurd (Option.some.inj e3).symm e,fun e3=>absurd (hs.bound _ _ e3) (Nat.lt_irrefl _)⟩
      · exact Iff.rfl
 bound:=fun b m hb=>by
  unfold own at hb
  split at hb
  · rename_i e;subst e;simp
  · have:=hs.bound b m hb;simp;omega
 known:=fun b m hb=>by
  unfold own at hb
  split at hb
  · cases hb;exact .inl (by simp [Env.bind])
  · exact(Env.gg hn).known (hs.known b m hb)
theorem Sat.Qt (hs:Sat P r ow h w) {n:Nat} (hn:r.blk n=none):
  Sat P (r.bind n w.heap.size 0) (own ow w.heap.size n) (h.put n (.map [])) { w with heap:=w.heap.push (.map #[] 0)} where
 chunk:=fun m c hm=>by
  rw [Heap.cG] at hm
  split at hm
  · rename_i e;subst e;cases hm
    exact⟨w.heap.size, #[],0,by simp [Env.bind],by simp [own],by simp,.nil,.nil⟩
  · rename_i e
    refine Chunk.cR (w:=w) (ow:=ow) (fun b hb=> ?_) (fun b=> ?_) (Chunk.dX (Env.gg hn) (hs.chunk m c hm))
    · have:=hs.bound b m hb
      simp [Array.getElem?_push,Nat.ne_of_lt this]
    · unfold own
      split
      · rename_i e2;subst e2
        exact⟨fun e3=>absurd (Option.some.inj e3).symm e,fun e3=>absurd (hs.bound _ _ e3) (Nat.lt_irrefl _)⟩
      · exact Iff.rfl
 bound:=fun b m hb=>by
  unfold own at hb
  split at hb
  · rename_i e;subst e;simp
  · have:=hs.bound b m hb;simp;omega
 known:=fun b m hb=>by
  unfold own at hb
  split at hb
  · cases hb;exact .inl (by simp [Env.bind])
  · exact(Env.gg hn).known (hs.known b m hb)
theorem Frame.new (o:Obj) (n:Nat):Frame ow w (own ow w.heap.size n) { w with heap:=w.heap.push o}:=
 ⟨rfl,rfl,rfl,by simp,fun b hb ho=>⟨by simp [own,Nat.ne_of_lt hb,ho],by simp [Array.getElem?_push,Nat.ne_of_lt hb]⟩⟩
theorem Frame.drew {w':World} (h1:w'.heap=w.heap) (h2:w'.os=w.os) (h3:w'.tape=w.tape) (h4:w'.output=w.output):Frame ow w ow w':=
 ⟨h2,h3,h4,by rw [h1];exact Nat.le_refl _,fun b _ ho=>⟨ho,by rw [h1]⟩⟩
theorem lA (hs:Sat P r ow h w) {n off b:Nat}{l vs:List Value}{t:TypeId} (hn:r.blk n=some b) (hg:h.get n=some (.cells l t)) (hv:vs=(l.drop off).take vs.length):
  ∃us:List Value,(loadCells ⟨b,off,none⟩ vs.length).run P w= .ok ⟨us⟩ w∧aw r vs us:=by
 obtain⟨b',c,h1,h2,h3,h4,h5,h6⟩:=hs.chunk n _ hg
 have hb:b'=b:=by rw [hn] at h1;exact(Option.some.inj h1).symm
 subst hb
 have hr:=(h4.drop off).take vs.length
 rw [←hv] at hr
 have hlen:(((c.toList.take l.length).drop off).take vs.length).length=vs.length:=hr.length.symm
 have he:((c.toList.take l.length).drop off).take vs.length=(c.toList.drop off).take vs.length:=by
  by_cases h0:vs.length=0
  · simp [h0]
  · have:off+vs.length≤l.length:=by
     have h7:vs.length=((l.drop off).take vs.length).length:=congrArg List.length hv
     simp [List.length_take,List.length_drop] at h7
     omega
    rw [List.drop_take,List.take_take,Nat.min_eq_left (by omega)]
 rw [he] at hr hlen
 exact⟨_,oO h3 hlen,hr⟩
theorem wO (hs:Sat P r ow h w) {n off b:Nat}{l vs us:List Value}{t:TypeId} (hn:r.blk n=some b) (hg:h.get n=some (.cells l t)) (hv:aw r vs us) (hc:∀x u,x∈vs→Rel r x u→(∀xs,u≠ .agg xs)∧(∀xs,u≠ .tuple xs)) (hl:off+vs.length≤l.length):
  ∃w',(storeCells ⟨b,off,none⟩ us).run P w= .ok () w'∧Sat P r ow (h.put n (.cells (aH l off vs) t)) w'∧Frame ow w ow w':=by
 obtain⟨b',c,h1,h2,h3,h4,h5,h6⟩:=hs.chunk n _ hg
 have hb:b'=b:=by rw [hn] at h1;exact(Option.some.inj h1).symm
 subst hb
 obtain⟨w',e1,e2⟩:=ir (P:=P) (b:=b') (off:=off) (t:=t) us 0 c w h3 (by rw [←hv.length];omega) (fun u hu=>by
  obtain⟨i,hi,rfl⟩:=List.getElem_of_mem hu
  obtain⟨x,hx,hrel⟩:=hv.get' i us[i] (by simp)
  exact hc x _ (List.mem_of_getElem? hx) hrel)
 refine⟨w',e1,hs.pN h2 e2 ⟨b',_,h1,h2,e2.at_,?_,?_,?_⟩,Frame.pN h2 e2⟩
 · rw [cJ,Nat.add_zero]
   show aw r _ ((aH c.toList off us).take l.length)
   rw [td]
   exact uO hv off h4
 · rw [cJ];simpa [cJ] using h5
 · simpa [cJ] using h6
end
end
section
def sj:List UInt8→List UInt8→Bool
 | [],[]=>true
 |a::x,b::y=>if Nat.beq a.toNat b.toNat then sj x y else false
 |_,_=>false
theorem tC:∀(x y:List UInt8),sj x y=(x==y)
 | [],[]=>rfl
 | [],_::_=>rfl
 |_::_,[]=>rfl
 |a::x,b::y=>by
  simp only [sj,cj,tC x y]
  by_cases h:a=b
  · subst h;simp
  · have:¬a.toNat=b.toNat:=fun e=>h (UInt8.toNat_inj.1 e)
    simp [this,h]
def cH (a b:ByteArray):Bool:=sj a.data.toList b.data.toList
theorem tS (a b:ByteArray):cH a b=(a.toList==b.toList):=by rw [cH,tC,ByteArray.toList_eq,ByteArray.toList_eq]
theorem Ge (a b:ByteArray):cH a b=(a==b):=by rw [tS,beq_toListBytes]
def yf (op:BinOp) (x y:Value):Option Value:=match x,y with
 | .int k a,.int k' b=>if k=k' then(match op with
   | .add=>some (.int k (k.wrap (a+b)))
   | .sub=>some (.int k (k.wrap (a - b)))
   | .mul=>some (.int k (k.wrap (a*b)))
   | .eql=>some (.bool (a==b))
   | .neq=>some (.bool (a !=b))
   | .lss=>some (.bool (decide (a < b)))
   | .leq=>some (.bool (decide (a≤b)))
   | .gtr=>some (.bool (decide (a > b)))
   | .geq=>some (.bool (decide (a≥b)))
   | .shr=>(match b with
    | .ofNat n=>(match n with
     |1=>some (.int k (a.fdiv 2))
     |_=>none)
    |_=>none)
   |_=>none) else none
 | .string a,.string b=>(match op with
   | .eql=>some (.bool (cH a b))
   | .neq=>some (.bool (!cH a b))
   |_=>none)
 |_,_=>none
theorem GR {P:Program}{op:BinOp}{x y v u1 u2:Value}{r:Env}{t:TypeId}{o1 o2:Operand} (h:yf op x y=some v) (h1:Rel r x u1) (h2:Rel r y u2) (w:World):
  (do eqGuard op t o1 o2 u1 u2;binOp op t u1 u2:Sem Value).run P w= .ok v w∧Rel r v v:=by
 unfold yf at h
 split at h
 · rename_i k a k' b
   cases h1;cases h2
   split at h
   · rename_i e;subst e
     split at h
     case h_10=>
      split at h
      · split at h
        · cases h
          refine⟨?_,.int _ _⟩
          cases k <;> simp [eqGuard,binOp,Op.shift,IntKind.bits]
        · cases h
      · cases h
     all_goals
      simp at h
      try subst h
     all_goals first
      |exact⟨by simp [eqGuard_at_int,binOp,Op.intArith],.int _ _⟩
      |exact⟨by simp [eqGuard_at_int,binOp,Op.intCmp],.bool _⟩
   · cases h
 · rename_i a b
   cases h1;cases h2
   split at h <;> simp at h <;> subst h
   · exact⟨by simp [eqGuard_at_string,binOp,Op.stringOp,tS],.bool _⟩
   · exact⟨by simp [eqGuard_at_string,binOp,Op.stringOp,tS],.bool _⟩
 · cases h
def vQ:TypeDesc→Value→Value→Option Bool
 | .bool,.bool a,.bool b=>some (a==b)
 | .int _,.int k a,.int k' b=>if k=k' then some (a==b) else none
 | .string,.string a,.string b=>some (cH a b)
 | .pointer _,.pointer none,.pointer none=>some true
 | .pointer _,.pointer (some _),.pointer none=>some false
 | .pointer _,.pointer none,.pointer (some _)=>some false
 | .interface _,.nilIface,.iface _ _=>some false
 | .interface _,.iface _ _,.nilIface=>some false
 | .func _ _ _,.nilFunc,.nilFunc=>some true
 | .func _ _ _,.nilFunc,.func _ _ _=>some false
 | .func _ _ _,.func _ _ _,.nilFunc=>some false
 | .map _ _,.map none,.map none=>some true
 | .map _ _,.map (some _),.map none=>some false
 |_,_,_=>none
def me (P:Program) (t:TypeId) (x y:Value):Option Bool:=match P.underlying t with
 |some D=>vQ D x y
 |none=>none
section
variable {P:Program}{t:TypeId}(d:Nat)(w:World)
theorem Nx (h:P.underlying t=some .bool) (a b:Bool):(Op.equalIn (d+1) t (.bool a) (.bool b)).run P w= .ok (a==b) w:=by simp [Op.equalIn,run_underlying h]
theorem NV {j k:IntKind} (h:P.underlying t=some (.int j)) (a b:Int):(Op.equalIn (d+1) t (.int k a) (.int k b)).run P w= .ok (a==b) w:=by simp [Op.equalIn,run_underlying h]
theorem NT (h:P.underlying t=some .string) (a b:ByteArray):(Op.equalIn (d+1) t (.string a) (.string b)).run P w= .ok (cH a b) w:=by simp [Op.equalIn,run_underlying h,Ge]
theorem Oh {e:TypeId} (h:P.underlying t=some (.pointer e)):(Op.equalIn (d+1) t (.pointer none) (.pointer none)).run P w= .ok true w:=by simp [Op.equalIn,run_underlying h]
theorem Qh {e:TypeId} (h:P.underlying t=some (.pointer e)) (a:Addr):(Op.equalIn (d+1) t (.pointer (some a)) (.pointer none)).run P w= .ok false w:=by simp [Op.equalIn,run_underlying h]
theorem Pz {e:TypeId} (h:P.underlying t=some (.pointer e)) (a:Addr):(Op.equalIn (d+1) t (.pointer none) (.pointer (some a))).run P w= .ok false w:=by simp [Op.equalIn,run_underlying h]
theorem Qk {ms:Array (String×TypeId)} (h:P.underlying t=some (.interface ms)) (u:TypeId) (v:Value):(Op.equalIn (d+1) t .nilIface (.iface u v)).run P w= .ok false w:=by simp [Op.equalIn,run_underlying h]
theorem Og {ms:Array (String×TypeId)} (h:P.underlying t=some (.interface ms)) (u:TypeId) (v:Value):(Op.equalIn (d+1) t (.iface u v) .nilIface).run P w= .ok false w:=by simp [Op.equalIn,run_underlying h]
theorem PF {ms:Array (String×TypeId)} (h:P.underlying t=some (.interface ms)):(Op.equalIn (d+1) t .nilIface .nilIface).run P w= .ok true w:=by simp [Op.equalIn,run_underlying h]
theorem Qb {p q:Array TypeId}{v:Bool} (h:P.underlying t=some (.func p q v)):(Op.equalIn (d+1) t .nilFunc .nilFunc).run P w= .ok true w:=by simp [Op.equalIn,run_underlying h]
theorem Oa {p q:Array TypeId}{v:Bool} (h:P.underlying t=some (.func p q v)) (f:Fn) (a b:Array Value):(Op.equalIn (d+1) t .nilFunc (.func f a b)).run P w= .ok false w:=by simp [Op.equalIn,run_underlying h]
theorem OX {p q:Array TypeId}{v:Bool} (h:P.underlying t=some (.func p q v)) (f:Fn) (a b:Array Value):(Op.equalIn (d+1) t (.func f a b) .nilFunc).run P w= .ok false w:=by simp [Op.equalIn,run_underlying h]
theorem Pw {p q:TypeId} (h:P.underlying t=some (.map p q)):(Op.equalIn (d+1) t (.map none) (.map none)).run P w= .ok true w:=by simp [Op.equalIn,run_underlying h]
theorem P4 {p q:TypeId} (h:P.underlying t=some (.map p q)) (a:Nat):(Op.equalIn (d+1) t (.map (some a)) (.map none)).run P w= .ok false w:=by simp [Op.equalIn,run_underlying h]
end
theorem fU {P:Program}{t:TypeId}{x y u1 u2:Value}{b:Bool}{r:Env} (h:me P t x y=some b) (h1:Rel r x u1) (h2:Rel r y u2) (d:Nat) (w:World):
  (Op.equalIn (d+1) t u1 u2).run P w= .ok b w:=by
 unfold me at h
 cases eD:P.underlying t with
 |none=>simp [eD] at h
 |some D=>
  simp only [eD] at h
  unfold vQ at h
  split at h
  · cases h1;cases h2;cases h;exact Nx d w eD _ _
  · cases h1;cases h2
    split at h
    · rename_i e;subst e;cases h;exact NV d w eD _ _
    · cases h
  · cases h1;cases h2;cases h;exact NT d w eD _ _
  · cases h1;cases h2;cases h;exact Oh d w eD
  · cases h1 <;> cases h2 <;> cases h <;> exact Qh d w eD _
  · cases h1 <;> cases h2 <;> cases h <;> exact Pz d w eD _
  · cases h1;cases h2;cases h;exact Qk d w eD _ _
  · cases h1;cases h2;cases h;exact Og d w eD _ _
  · cases h1;cases h2;cases h;exact Qb d w eD
  · cases h1;cases h2;cases h;exact Oa d w eD _ _ _
  · cases h1;cases h2;cases h;exact OX d w eD _ _ _
  · cases h1;cases h2;cases h;exact Pw d w eD
  · cases h1;cases h2;cases h;exact P4 d w eD _
  · cases h
def vz (P:Program):List Field→List Value→List Value→Option Bool
 | [],_,_=>some true
 |f::fs,xs,ys=>if f.name= "_" then none else match xs[f.offset]?,ys[f.offset]? with
  |some x,some y=>(match P.underlying f.type with
   |some (.struct _)=>none
   |some (.array _ _)=>none
   |some _=>(match me P f.type x y with
    |some true=>vz P fs xs ys
    |some false=>some false
    |none=>none)
   |none=>none)
  |_,_=>none
theorem zo {P:Program}{r:Env}{xs ys us vs:List Value} (h1:aw r xs us) (h2:aw r ys vs) (d:Nat) (w:World):∀(fs:List Field) (b:Bool),vz P fs xs ys=some b→
  (Op.eqFields (d+1) ⟨us⟩ ⟨vs⟩ fs).run P w= .ok b w
 | [],b,h=>by simp [vz] at h;subst h;rfl
 |f::fs,b,h=>by
  simp only [vz] at h
  split at h
  · cases h
  · rename_i hn
    cases ex:xs[f.offset]? with
    |none=>simp [ex] at h
    |some x=>
     cases ey:ys[f.offset]? with
     |none=>simp [ex,ey] at h
     |some y=>
      simp only [ex,ey] at h
      obtain⟨u,eu,hu⟩:=h1.get _ _ ex
      obtain⟨v,ev,hv⟩:=h2.get _ _ ey
      cases eD:P.underlying f.type with
      |none=>simp [eD] at h
      |some D=>
       have hD:lW D=false:=by
        cases D <;> first|rfl|(simp only [eD] at h;cases h)
       have hp1:(part f.type ⟨us⟩ f.offset).run P w= .ok u w:=by
        simp [part,ga eD,hD,eu]
       have hp2:(part f.type ⟨vs⟩ f.offset).run P w= .ok v w:=by
        simp [part,ga eD,hD,ev]
       have h':(match me P f.type x y with|some true=>vz P fs xs ys|some false=>some false|none=>none)=some b:=by
        cases D <;> first|exact(by simpa only [eD] using h)|(simp [lW] at hD)
       cases el:me P f.type x y with
       |none=>simp [el] at h'
       |some q=>
        have hq:=fU el hu hv d w
        rw [Op.eqFields]
        simp only [hn,ne_eq,not_false_eq_true,if_true,Sem.run_bind,hp1,hp2,hq,Result.andThen_ok,Sem.run_ite]
        cases q with
        |false=>simp [el] at h';subst h';simp
        |true=>simp only [el] at h';simpa using zo h1 h2 d w fs b h'
def yv (P:Program) (t:TypeId) (xs ys:List Value):Option Bool:=match P.underlying t with
 |some (.struct fs)=>if P.stoodInHeld t then none else if P.eqGuardType P.depth t then none else vz P fs.toList xs ys
 |_=>none
def sc (P:Program) (t:TypeId) (o2:Operand) (x y:Value):Option Bool:=match x with
 | .agg xs=>(match y with
  | .agg ys=>yv P t xs.toList ys.toList
  |_=>none)
 | .nilIface=>(match y with
  | .nilIface=>(match o2,P.underlying t with
   | .const _,some (.interface _)=>some true
   |_,_=>none)
  |_=>me P t x y)
 | .bool _| .pointer _| .iface _ _| .nilFunc| .func _ _ _| .map _=>me P t x y
 |_=>none
theorem lY {P:Program}{t:TypeId}{o1 o2:Operand}{u1 u2:Value}{b:Bool}{w:World} (hg:∀op,eqGuard op t o1 o2 u1 u2=pure ()) (h1:∀k n,u1≠ .int k n) (h2:∀s,u1≠ .string s)
  (h3:∀k n,u1≠ .float k n) (h4:∀k n m,u1≠ .complex k n m) (he:(Op.equal t u1 u2).run P w= .ok b w):
  (do eqGuard .eql t o1 o2 u1 u2;binOp .eql t u1 u2:Sem Value).run P w= .ok (.bool b) w∧(do eqGuard .neq t o1 o2 u1 u2;binOp .neq t u1 u2:Sem Value).run P w= .ok (.bool (!b)) w:=by
 rw [hg,hg]
 cases u1 with
 |int k n=>exact absurd rfl (h1 k n)
 |string s=>exact absurd rfl (h2 s)
 |float k n=>exact absurd rfl (h3 k n)
 |complex k n m=>exact absurd rfl (h4 k n m)
 |_=>exact⟨by simp [binOp,he],by simp [binOp,he]⟩
theorem yP {P:Program}{t:TypeId}{o1 o2:Operand}{x y u1 u2:Value}{b:Bool}{r:Env} (h:sc P t o2 x y=some b) (h1:Rel r x u1) (h2:Rel r y u2) (w:World):
  (do eqGuard .eql t o1 o2 u1 u2;binOp .eql t u1 u2:Sem Value).run P w= .ok (.bool b) w∧(do eqGuard .neq t o1 o2 u1 u2;binOp .neq t u1 u2:Sem Value).run P w= .ok (.bool (!b)) w:=by
 cases x with
 |agg xs=>
  cases y with
  |agg ys=>
   simp only [sc] at h
   obtain⟨us,rfl,hu⟩:=h1.j3
   obtain⟨vs,rfl,hv⟩:=h2.j3
   unfold yv at h
   cases eD:P.underlying t with
   |none=>simp [eD] at h
   |some D=>
    cases D <;> simp only [eD] at h <;> try (cases h;done)
    rename_i fs
    split at h
    · cases h
    · rename_i hs
      split at h
      · cases h
      · rename_i hg
        have hf:P.fieldsOf t=fs:=by simp [Program.fieldsOf,eD]
        have hr:=zo (P:=P) hu hv 9998 w fs.toList b h
        have he:=run_equalIn_struct (P:=P) w 9999 t us vs (by rw [hf];exact eD) (by simpa using hs)
        rw [hf] at he
        have he':(Op.equal t (.agg us) (.agg vs)).run P w= .ok b w:=he.trans hr
        have hg':P.eqGuardType P.depth t=false:=by simpa using hg
        constructor <;> simp [eqGuard,hg',binOp,he']
  |_=>simp [sc] at h
 |nilIface=>
  cases h1
  cases y with
  |nilIface=>
   cases h2
   simp only [sc] at h
   cases o2 with
   |const c=>
    cases eD:P.underlying t with
    |none=>simp [eD] at h
    |some D=>
     cases D <;> simp only [eD] at h <;> try (cases h;done)
     cases h
     exact lY (fun op=>eqGuard_nil_constR ..) (by simp) (by simp) (by simp) (by simp) (PF 9999 w eD)
   |_=>simp at h
  |iface tt v=>
   have hq:=fU h .nilIface h2 9999 w
   cases h2
   exact lY (fun op=>eqGuard_nil_iface ..) (by simp) (by simp) (by simp) (by simp) hq
  |_=>
   have hq:=fU h .nilIface h2 9999 w
   simp only [sc,me] at h
   cases eD:P.underlying t with
   |none=>simp [eD] at h
   |some D=>simp only [eD] at h;cases D <;> simp [vQ] at h
 |bool q=>
  have hq:=fU h h1 h2 9999 w
  cases h1
  exact lY (fun op=>eqGuard_at_bool ..) (by simp) (by simp) (by simp) (by simp) hq
 |pointer q=>
  have hq:=fU h h1 h2 9999 w
  cases h1 <;> exact lY (fun op=>eqGuard_at_pointer ..) (by simp) (by simp) (by simp) (by simp) hq
 |iface tt q=>
  have hq:=fU h h1 h2 9999 w
  cases h1
  exact lY (fun op=>eqGuard_at_iface ..) (by simp) (by simp) (by simp) (by simp) hq
 |nilFunc=>
  have hq:=fU h h1 h2 9999 w
  cases h1
  exact lY (fun op=>eqGuard_at_nilFunc ..) (by simp) (by simp) (by simp) (by simp) hq
 |func f a c=>
  have hq:=fU h h1 h2 9999 w
  cases h1
  exact lY (fun op=>eqGuard_at_func ..) (by simp) (by simp) (by simp) (by simp) hq
 |map q=>
  have hq:=fU h h1 h2 9999 w
  cases h1 <;> exact lY (fun op=>eqGuard_at_map ..) (by simp) (by simp) (by simp) (by simp) hq
 |_=>simp [sc] at h
end
end Go.Sx
